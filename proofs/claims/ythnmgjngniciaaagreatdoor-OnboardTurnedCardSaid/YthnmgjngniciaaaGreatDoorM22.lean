/- Parts. -/
import Derived.Test.YthnmgjngniciaaaGreatDoorM19
import Derived.Test.YthnmgjngniciaaaGreatDoorM21
import Derived.Deep.DeepCutAuto
import Derived.Test.YthnmgjngniciaaaGreatDoorM03
import Derived.Test.YthnmgjngniciaaaGreatDoorM08
set_option linter.all false
set_option maxHeartbeats 16000000
set_option maxRecDepth 8000
open BitVec renaming ofInt→aQ
open List renaming length_append→bC,length_cons→bK,map→bV,setIfInBounds_toArray→ay,set_cons_succ→aB,set_cons_zero→aA
open Nat renaming le_trans→aG,mod_eq_of_lt→dF,reduceAdd→aT,zero_add→aJ
open Option renaming getD_some→eG,map_some→eF
open Option.some renaming injEq→aO
namespace Go.Proofs.YthnmgjngniciaaaGreatDoor
open Go.RowKit Go.Shelf Tryz
open Act renaming put→aP
open Below renaming refl→aH
open Lib renaming hid→ah
open Region renaming binds→aC,wanted→aF
open Tryz renaming prog→aj,underlying44→bg
open Value renaming oneCell'→aK
variable{rev:Bool}{gap ref:Int}{ss:List Sc}{path:List St}{Bq base bt cL cs g gm:Nat}{AL As:Option Addr}{m:jl}{x:Tr}{W W' w w' w0:World}
theorem ard{α:Type}{E:arb α}{t H:TypeId}{b c:Nat}{A:Option Addr}{xs:List α}{cs:Array Value}(J:aq1 E t w b A c xs)(d:fK w g H cs)(K:t≠H):A.map (·.block)≠some g:=by intro e;obtain⟨N,M,r1,_,j,_⟩:=J.blk (by rintro rfl;cases e);rw[r1]at e;simp only[eF,aO]at e;subst e;unfold fK at d j;rw[j]at d;injection d with d;injection d with _ d;exact K d
theorem oQ{α H:Type}{J:arb α}{K:arb H}{d j:TypeId}{b1 b2 c1 c2:Nat}{A1 A2:Option Addr}{l1:List α}{l2:List H}(M:aq1 J d w b1 A1 c1 l1)(N:aq1 K j w b2 A2 c2 l2)(Q:d≠j): ∀g,A1.map (·.block)=some g->A2.map (·.block)≠some g:=by intro g e1;obtain⟨V,U,r1,_,O,_⟩:=M.blk (by rintro rfl;cases e1);rw[r1]at e1;simp only[eF,aO]at e1;subst e1;exact ard N O Q.symm
def idP (x y:Int):Int:=((x.toNat*16384) ||| y.toNat:Nat)
def qL (t:Tp):Nat->List Int->Int->Int->List St->Except Int (List St)
 |0,_,_,_,_=> .error 20
 |k+1,l,many,i,path=>if i<many then
     if l.tail.headD 0≠1 then .error 20 else
     match oz t (idP (l.tail.tail.headD 0) (l.tail.tail.tail.headD 0)),path.getLast? with
     |some b,some last=>if b.edge=last.edge then qL t k (if i=0 then l.tail.tail.tail.tail.tail.tail.tail.tail else l.tail.tail.tail.tail.tail.tail.tail) (if i=0 then many+l.tail.tail.tail.tail.tail.tail.tail.headD 0 else many) (i+1) path else
         if(⟨b.edge,decide (l.tail.tail.tail.tail.headD 0=0)⟩:St)∉pK t last then .error 141 else
         if xG path b.edge=true\/path.length=24 then .error 2 else qL t k (if i=0 then l.tail.tail.tail.tail.tail.tail.tail.tail else l.tail.tail.tail.tail.tail.tail.tail) (if i=0 then many+l.tail.tail.tail.tail.tail.tail.tail.headD 0 else many) (i+1) (path++ [⟨b.edge,decide (l.tail.tail.tail.tail.headD 0=0)⟩])
     |_,_=> .error 4
   else .ok path
def FD (t:Tp) (path:List St) (v:List Int):Except Int (List St):=qL t (v.length+1) v.tail.tail 1 0 path
structure Vz (w0:World) (m:jl) (gm bt Bq:Nat) (ref:Int) (rev:Bool) (As:Option Addr) (cs:Nat) (ss:List Sc) (gap:Int) (path:List St) (AL:Option Addr) (cL:Nat) (W:World):Prop where
  low:w0 W
  tb:fK W bt 27 m.cells
  mb:fK W gm 42 #[.int .i64 ref,.bool rev,.slice AL path.length cL,.slice As ss.length cs,.int .i64 gap]
  own:aq1 gV 58 W Bq AL cL path
  sec:aq1 kW 60 W Bq As cs ss
  lo:w0.heap.size<=Bq/\w0.heap.size<=bt/\w0.heap.size<=gm/\w0.heap.size<=W.heap.size
theorem Vz.ji{D:Nat->Prop}(h:Vz w0 m gm bt Bq ref rev As cs ss gap path AL cL W)(d:jV D W W')(M: ∀k,D k->w0.heap.size<=k)(j: ¬D bt)(H: ¬D gm)(J: ∀x,AL.map (·.block)=some x-> ¬D x)(K: ∀x,As.map (·.block)=some x-> ¬D x):Vz w0 m gm bt Bq ref rev As cs ss gap path AL cL W':=⟨h.low.trans (d.below h.lo.2.2.2 M),h.tb.ji d j,h.mb.ji d H,h.own.ji d J,h.sec.ji d K,⟨h.lo.1,h.lo.2.1,h.lo.2.2.1,aG h.lo.2.2.2 d.size⟩⟩
theorem Vz.below(h:Vz w0 m gm bt Bq ref rev As cs ss gap path AL cL W)(d:W W'):Vz w0 m gm bt Bq ref rev As cs ss gap path AL cL W':=h.ji (jV.of_below d (λ_=>False)) (λ_ h=>h.elim) id id (λ_ _=>id) (λ_ _=>id)
theorem Vz.at_(h:Vz w0 m gm bt Bq ref rev As cs ss gap path AL cL W)(N:jV (λk=>k=g) W W')(O:w0.heap.size<=g)(H:bt≠g)(J:gm≠g)(K:AL.map (·.block)≠some g)(M:As.map (·.block)≠some g):Vz w0 m gm bt Bq ref rev As cs ss gap path AL cL W':=h.ji N (λk Q=>by omega) H J (λx j d=>K (by rw[j,d])) (λx j d=>M (by rw[j,d]))
theorem Vz.pr{l:List Int}{u er:Int}(h:Vz w0 m gm bt Bq ref rev As cs ss gap path AL cL W)(M:lH W w0 g l u er)(J:jV (λk=>k=g) W W')(j:bt≠g)(H:gm≠g):Vz w0 m gm bt Bq ref rev As cs ss gap path AL cL W':=by obtain⟨⟨A,c,d,_⟩,K⟩:=M;exact h.at_ J K j H (ard h.own d (by decide)) (ard h.sec d (by decide))
theorem Ol(s:St): ∀l,(uf s l).length<=l.length+1
 | []=>by simp[uf]
 |x::l=>by
  have d:=Ol s l;rw[uf];split;·simp
  ·split;(·simp);·simp only[bK];omega
theorem Xo(t:Tp)(s:St):(pK t s).length<=2*t.iI.length:=by
 unfold pK;split
 ·have h: ∀l:List St,(l.foldr uf []).length<=l.length:=λl=>by induction l with|nil=>simp|cons x l d=>have:=Ol x (l.foldr uf []);rw[List.foldr_cons,bK];omega
  exact aG (h _) (Un t s)
 ·simp
def adB (l:List St) (v:Value) (w:World):Prop:= ∃A c,v=.slice A l.length c/\fE gV w A l
theorem adB.grow{l:List St}{v:Value}(h:adB l v w)(d:w w'):adB l v w':=by obtain⟨A,c,e,j⟩:=h;exact⟨A,c,e,j.below d⟩
theorem Om{d H j:Int}(J:0<=d)(K:d<H)(hm:0<=j/\j<=4294967296/\(d≠0->j=H)):(if d+1=0 then 4294967299 else(j-(d+1)).toNat)<(if d=0 then 4294967299 else(H-d).toNat):=by
 rw[if_neg (by omega)];by_cases h:d=0;·rw[if_pos h];omega
 ·rw[if_neg h];have:=hm.2.2 h;omega
def Uo (w0:World) (gm Bq:Nat) (ref:Int) (rev:Bool) (As:Option Addr) (cs:Nat) (ss:List Sc) (gap:Int) (R:Except Int (List St)) (e:Ending) (w':World):Prop:=w0 w'/\match R with
 | .error er=>e=.returned (.int .i64 er)/\er≠0
 | .ok path=>e=.returned (.int .i64 0)/\ ∃A c,fK w' gm 42 #[.int .i64 ref,.bool rev,.slice A path.length c,.slice As ss.length cs,.int .i64 gap]/\aq1 gV 58 w' Bq A c path/\aq1 kW 60 w' Bq As cs ss
theorem ajU(t:TypeId)(x y:Int)(d:0<=x)(j:x<9223372036854775808)(H:0<=y)(J:y<9223372036854775808):binOp .or t x y=pure (.int .i64 ((x.toNat ||| y.toNat:Nat):Int)):=by
 have K:x.toNat ||| y.toNat<2 ^ 63:=Nat.or_lt_two_pow (by omega) (by omega)
 have e:IntKind.i64.wrap ((aQ 64 x ||| aQ 64 y).toNat:Int)=((x.toNat ||| y.toNat:Nat):Int):=by rw[show x=((x.toNat:Nat):Int) by omega,show y=((y.toNat:Nat):Int) by omega,oK,oK,BitVec.toNat_or,BitVec.toNat_ofNat,BitVec.toNat_ofNat,dF (by omega),dF (by omega),IntKind.wrap_i64];simp only[Int.toNat_natCast];omega
 show Op.intBits .or .i64 _ _=_;exact congrArg (λn=>(pure (Value.int .i64 n):Sem Value)) e
theorem adC{t:Tp}(hT:jE w0 t m)(ref:Int)(rev:Bool)(As:Option Addr)(cs:Nat)(ss:List Sc)(gap:Int)(path:List St)(Ap:Option Addr)(cp:Nat)(d7:w0 W)(Z:fK W gm 42 #[.int .i64 ref,.bool rev,.slice Ap path.length cp,.slice As ss.length cs,.int .i64 gap])(ee:aq1 gV 58 W Bq Ap cp path)(yL:aq1 kW 60 W Bq As cs ss)(ad:w0.heap.size<=Bq/\w0.heap.size<=gm/\w0.heap.size<=W.heap.size/\Bq<=W.heap.size)(v:List Int)(Av:Option Addr)(cv:Nat)(hr:fE aq7 W Av v)(ea:v≠ []-> ∀a,Av=some a->a.block<w0.heap.size)(hc:v.length<=cv/\cv<=maxLen)(hv: ∀x∈v,0<=x/\x<=4294967295)(bf:path≠ []/\path.length<=24):Calls aj 257 #[.agg m.cells,.pointer (some ⟨gm,0,none⟩),.slice Av v.length cv] W (Uo w0 gm Bq ref rev As cs ss gap (FD t path v)):=by
 obtain⟨R,hR⟩:=fD (FD t path v);rw[<-hR];unfold FD at hR;have bd:=λW l u er g (h:lH W w0 g l u er)=>Qh h;have cQ:W (W.alloc (.cells m.cells 27)):=gY.alloc ig _;have an:W ((W.alloc (.cells m.cells 27)).alloc (.cells #[.slice Av v.length cv,.int .i64 0,.int .i64 0] 367)):=cQ.alloc cQ.size _;have Y:lH ((W.alloc (.cells m.cells 27)).alloc (.cells #[.slice Av v.length cv,.int .i64 0,.int .i64 0] 367)) w0 (W.heap.size+1) v 0 0:=by have V:=fK.new (W.alloc (.cells m.cells 27)) 367 #[.slice Av v.length cv,.int .i64 0,.int .i64 0];rw[show(W.alloc (.cells m.cells 27)).heap.size=W.heap.size+1 by simp]at V;exact⟨⟨Av,cv,V,hr.below an,ea,hc.1,hc.2⟩,by have:=ad.2.2.1;omega⟩
 have M:Vz w0 m gm W Bq ref rev As cs ss gap path Ap cp ((W.alloc (.cells m.cells 27)).alloc (.cells #[.slice Av v.length cv,.int .i64 0,.int .i64 0] 367)):=⟨d7.trans (an.mono ad.2.2.1),(fK.new W 27 m.cells).below jm (by simp),Z.below an Z.lt,ee.below an,yL.below an,⟨ad.1,ad.2.2.1,ad.2.1,aG ad.2.2.1 an.size⟩⟩;have eA:gm<W.heap.size:=Z.lt;obtain⟨n,hn⟩:=fD v.length;rw[<-hn]at Y M an ⊢;obtain⟨bt,a5⟩:=fD W.heap.size;obtain⟨W1,cN⟩:=fD ((W.alloc (.cells m.cells 27)).alloc (.cells #[.slice Av n cv,.int .i64 0,.int .i64 0] 367));rw[<-cN]at Y M;rw[<-a5]at Y M eA;have V:=bd _ _ _ _ _ Y;obtain⟨u0,ek⟩:=fD (v.headD 0);obtain⟨u1,el⟩:=fD (v.tail.headD 0);have h2:=λW (h:lH W w0 (bt+1) v.tail 0 0)=>bd _ _ _ _ _ h;rw[<-ek]at V;rw[<-el]at h2;have HR:=ah hR;have fi:=ah a5;have fv:Bq<=bt:=by rw[a5];exact ad.2.2.2
 have fj:=ah hn;clear hR ek el hr ea hc Z ee yL d7 cQ an hn;unfold jl.cells at*;go_enter func257,ntmps257;go_upto_region 2 with fail;simp only[<-a5,<-cN];clear cN a5;go_wp2_with(first|(go_at_call 272;(with_reducible refine V.mono ?_);rintro e fU⟨rfl,eh,ef⟩)|(go_at_call 272;(with_reducible refine(h2 _ ef).mono ?_);rintro e w2⟨rfl,ei,cd⟩));have ae:bt≠bt+1:=by omega
 have IQ:gm≠bt+1:=by omega
 have eB:w0.heap.size<=bt+1:=by have:=M.lo.2.1;omega
 have ev:=(mD eh).trans (mD ei);have dy:=M.at_ ev eB ae IQ (ard M.own (show fK W1 (bt+1) _ _ from(Classical.choose_spec (Classical.choose_spec Y.blk)).1) (by decide)) (ard M.sec (show fK W1 (bt+1) _ _ from(Classical.choose_spec (Classical.choose_spec Y.blk)).1) (by decide));clear M ev eh ei ef Y V h2;have dk:=ah bf;have em: ∀x∈v.tail.tail,0<=x/\x<=4294967295:=oq (oq hv);go_loopw [8,9] (λa i wr=> ∃(O J:Int) (l:List Int) (k:Nat) (H:List St) (AL:Option Addr) (cL:Nat),a=.int .i64 O/\i=.int .i64 J/\0<=J/\Hid (J=0->O=1)/\0<=O/\O<=4294967296/\Vz w0 m gm bt Bq ref rev As cs ss gap H AL cL wr/\lH wr w0 (bt+1) l 0 0/\Hid (H≠ []/\H.length<=24)/\Hid (l.length+1<=k)/\Hid (∀x∈l,0<=x/\x<=4294967295)/\Hid (R=qL t k l O J H)) (λa i _=>if intOf i=0 then 4294967299 else(intOf a-intOf i).toNat);case atStart=>exact⟨1,0,v.tail.tail,v.length+1,path,Ap,cp,rfl,rfl,by decide,ah (λ_=>rfl),by decide,by decide,dy,cd,dk,ah (by simp;omega),ah em,HR⟩
 case round=>
  clear dy cd em HR dk hv bf;obtain⟨O,J,l,k,H,AL,cL,rfl,rfl,d4,du,fa,fb,M,Y,cc,d6,d8,cM⟩:=hrel;obtain⟨k',d5⟩: ∃k',k=k'+1:=⟨k-1,by have:=d6.out;omega⟩;have HK:=ah d5;clear d5;have bR:Hid (R=qL t (k'+1) l O J H):=ah (by rw[cM.out,HK.out]);by_cases au:J<O
  ·(have eV:decide (J<O)=true:=by simpa using au);obtain⟨x0,eo⟩:=fD (l.headD 0);obtain⟨l1,az⟩:=fD l.tail;obtain⟨x1,af⟩:=fD (l1.headD 0);obtain⟨l2,a7⟩:=fD l1.tail;obtain⟨x2,cn⟩:=fD (l2.headD 0);obtain⟨l3,a8⟩:=fD l2.tail;obtain⟨x3,ct⟩:=fD (l3.headD 0);obtain⟨l4,a9⟩:=fD l3.tail;obtain⟨x4,db⟩:=fD (l4.headD 0);obtain⟨l5,ba⟩:=fD l4.tail;obtain⟨x5,ep⟩:=fD (l5.headD 0);obtain⟨l6,bb⟩:=fD l5.tail;obtain⟨x6,eq⟩:=fD (l6.headD 0);obtain⟨l7,bc⟩:=fD l6.tail;obtain⟨x7,cu⟩:=fD (l7.headD 0);obtain⟨l8,Tm⟩:=fD l7.tail;have ai:=λW l (h:lH W w0 (bt+1) l 0 0)=>bd W l 0 0 _ h;have q0:=λW h=>ai W l h;rw[<-eo,<-az]at q0;have q1:=λW h=>ai W l1 h;rw[<-af,<-a7]at q1;have q2:=λW h=>ai W l2 h;rw[<-cn,<-a8]at q2;have q3:=λW h=>ai W l3 h;rw[<-ct,<-a9]at q3;have q4:=λW h=>ai W l4 h;rw[<-db,<-ba]at q4;have q5:=λW h=>ai W l5 h;rw[<-ep,<-bb]at q5;have q6:=λW h=>ai W l6 h;rw[<-eq,<-bc]at q6;have q7:=λW h=>ai W l7 h;rw[<-cu,<-Tm]at q7;(have dn: ∀x∈l1,0<=x/\x<=4294967295:=by rw[az];exact oq d8.out);(have cC: ∀x∈l2,0<=x/\x<=4294967295:=by rw[a7];exact oq dn);(have cD: ∀x∈l3,0<=x/\x<=4294967295:=by rw[a8];exact oq cC);(have bA: ∀x∈l7,0<=x/\x<=4294967295:=by rw[bc,bb,ba,a9];exact oq (oq (oq (oq cD))));(have r2:0<=x2/\x2<=4294967295:=by rw[cn];exact Jd cC);(have r3:0<=x3/\x3<=4294967295:=by rw[ct];exact Jd cD);(have r7:0<=x7/\x7<=4294967295:=by rw[cu];exact Jd bA);have eC:=ah bA;have eD:Hid (∀x∈l8,0<=x/\x<=4294967295):=ah (by rw[Tm];exact oq bA);have e5:Hid (x1=1->l8.length+2<=l.length/\l7.length+2<=l.length):=ah (λh=>by(have h2:2<=l.length:=by rw[af,az]at h;match l,h with| [],h=>simp at h| [_],h=>simp at h|_::_::_,_=>simp);(have e7:l7.length<=l2.length:=by rw[bc,bb,ba,a9,a8];simp;omega);(have e2:l2.length+2=l.length:=by rw[a7,az];simp;omega);(have e8:l8.length<=l7.length:=by rw[Tm];simp);omega)
   have HX : Hid (R = if x1 ≠ 1 then .error 20 else match oz t (idP x2 x3), H.getLast? with
     |some b,some last=>if b.edge=last.edge then qL t k' (if J=0 then l8 else l7) (if J=0 then O+x7 else O) (J+1) H else
       if(⟨b.edge,decide (x4=0)⟩:St)∉pK t last then .error 141 else
       if xG H b.edge=true\/H.length=24 then .error 2 else qL t k' (if J=0 then l8 else l7) (if J=0 then O+x7 else O) (J+1) (H++ [⟨b.edge,decide (x4=0)⟩])
     |_,_=> .error 4):=ah (by
     rw[bR.out,qL,if_pos au]
     simp only[<-az,<-a7,<-a8,<-a9,<-ba,<-bb,<-bc,<-Tm,<-af,<-cn,<-ct,<-db,<-cu])
   clear eo az af a7 cn a8 ct a9 db ba ep bb eq bc cu Tm dn cC cD bA cM bR ai bd d8;by_cases af:x1=1
   ·(have e1:(x1 != 1)=false:=by simpa using af);have dl:=ah af;have d9:=ah au;clear af;obtain⟨cw,bB⟩:=fD (idP x2 x3);(have ff: ∀t,binOp .or t (.int .i64 (x2*16384)) (.int .i64 x3)=pure (.int .i64 cw):=λt=>by rw[ajU t _ _ (by omega) (by omega) (by omega) (by omega),bB,idP,show(x2*16384).toNat=x2.toNat*16384 by omega]);have zN:=ah bB;obtain⟨rb,cg⟩:=fD (decide (x4=0));(have e4:(x4==0)=rb:=by rw[cg];rfl);have fk:=ah cg;obtain⟨ib,cV⟩:=fD (J==0);have fs:(J==0)=ib:=cV.symm;have dd:Hid (ib=true<->J=0):=ah (by rw[cV,beq_iff_eq]);obtain⟨U,bq⟩:=fD (if J=0 then O+x7 else O);obtain⟨l',a6⟩:=fD (if J=0 then l8 else l7)
    have bm : Hid (R = match oz t cw, H.getLast? with
      |some b,some last=>if b.edge=last.edge then qL t k' l' U (J+1) H else
        if(⟨b.edge,rb⟩:St)∉pK t last then .error 141 else
        if xG H b.edge=true\/H.length=24 then .error 2 else qL t k' l' U (J+1) (H++ [⟨b.edge,rb⟩])
      |_,_=> .error 4):=ah (by rw[HX.out,if_neg (λh=>h dl.out),bB,bq,a6,cg])
    have aD:Hid (0<=U/\U<=4294967296/\(J≠0->U=O)):=ah (by rw[bq];by_cases h:J=0;(·rw[if_pos h];have:=du.out h;omega);·rw[if_neg h];exact⟨fa,fb,λ_=>rfl⟩);have di:=ah bq;have de:=ah a6;have df:Hid (l'.length+1<=k'):=ah (by have V:=e5.out dl.out;have h2:=d6.out;have h3:=HK.out;rw[a6];split <;> omega);have dg:Hid (∀x∈l',0<=x/\x<=4294967295):=ah (by rw[a6];split;exact eD.out;exact eC.out);clear bB cg cV bq a6 HX
    go_upto_if 48 with (first
      |(go_at_call 272;(with_reducible refine(q0 _ Y).mono ?_);rintro e w3⟨rfl,bi,aE⟩;have bN:=M.pr Y (mD bi) ae IQ)
      |(go_at_call 272;(with_reducible refine(q1 _ aE).mono ?_);rintro e w4⟨rfl,bj,cf⟩;have bO:=bN.pr aE (mD bj) ae IQ)
      |(go_at_call 272;(with_reducible refine(q2 _ cf).mono ?_);rintro e w5⟨rfl,c8,IJ⟩;have dz:=bO.pr cf (mD c8) ae IQ)
      |(go_at_call 272;(with_reducible refine(q3 _ IJ).mono ?_);rintro e w6⟨rfl,c9,Uf⟩;have dC:=dz.pr IJ (mD c9) ae IQ)
      |(go_at_call 272;(with_reducible refine(q4 _ Uf).mono ?_);rintro e w7⟨rfl,da,Gv⟩;have dE:=(dC.pr Uf (mD da) ae IQ).below ((aH w7 w7).alloc ig (.cells #[.int .i64 0,.bool rb] 58));have cE:=Gv.below ((aH w7 w7).alloc ig (.cells #[.int .i64 0,.bool rb] 58));have YN:=fK.new w7 58 #[.int .i64 0,.bool rb];have Qg:bt+1<w7.heap.size:=(Classical.choose_spec (Classical.choose_spec Gv.blk)).1.lt)
      |(go_at_call 272;(with_reducible refine(q5 _ cE).mono ?_);rintro e w8⟨rfl,ch,P9⟩;have dT:=dE.pr cE (mD ch) ae IQ;have Xp:=YN.ji (mD ch) (by omega))
      |(go_at_call 272;(with_reducible refine(q6 _ P9).mono ?_);rintro e w9⟨rfl,ci,TN⟩;have cK:=dT.pr P9 (mD ci) ae IQ;have bL:=Xp.ji (mD ci) (by omega)))
    (have cJ: ∀x,AL.map (·.block)=some x->x<w7.heap.size:=λx N=>by have V:=(M.own.gJ x N).2;have h2:=bi.size;have h3:=bj.size;have h4:=c8.size;have h5:=c9.size;have h6:=da.size;omega);obtain⟨b11,sQ⟩:=fD w7.heap.size;have dv:=aG ch.size ci.size;simp only[World.size_alloc]at dv;rw[<-sQ]at bL Qg dv cJ ⊢;have ew:=ah cJ;clear sQ cJ YN Xp M bN bO dz dC dE dT Y aE cf IJ Uf Gv cE P9 bi bj c8 c9 da ch ci q0 q1 q2 q3 q4 q5 q6 ff e1 e4;go_cut [8] from 22 to 111 (λa W'=>a=.int .i64 U/\Vz w0 m gm bt Bq ref rev As cs ss gap H AL cL W'/\lH W' w0 (bt+1) l' 0 0/\fK W' b11 58 #[.int .i64 0,.bool rb]/\b11<W'.heap.size);(case first=>cases ib with|false=>(have h0: ¬J=0:=λh=>by cases dd.out.2 h);(have e6:U=O:=by rw[di.out,if_neg h0]);(have e7:l'=l7:=by rw[de.out,if_neg h0]);clear h0;subst e6;subst e7;go_wp2_with fail;go_meet;exact⟨rfl,cK,TN,bL,by omega⟩|true=>have h0:J=0:=dd.out.1 rfl;(have e6:U=O+x7:=by rw[di.out,if_pos h0]);(have e7:l'=l8:=by rw[de.out,if_pos h0]);have eE:=du.out h0;clear h0;go_wp2_with(go_at_call 272;(with_reducible refine(q7 _ TN).mono ?_);rintro e ak⟨rfl,c6,eI⟩);go_meet;have fu:=c6.size;exact⟨by rw[e6,eE],cK.pr TN (mD c6) ae IQ,by rw[e7];exact eI,bL.ji (mD c6) (by omega),by omega⟩);case rest=>
     obtain⟨rfl,M,Y,dx,eO⟩:=hcut;have d0:=hT.below M.low;have lF:=Hw d0 cw;have cm:=M.tb.cell;unfold jl.cells at lF cm;cases hb:oz t cw with
     |none=>rw[hb]at lF;simp only[Option.getD_none,Option.isSome_none]at lF;have aa:Hid (R=.error 4):=ah (by rw[bm.out,hb]);clear hb bm;go_wp2_with(go_at_call 49;(with_reducible refine lF.mono ?_);rintro e ak⟨rfl,kQ⟩);go_ret;refine⟨(M.below kQ).low.trans ?_,?_⟩;(·exact((aH ak ak).alloc ig _).mono (M.below kQ).lo.2.2.2);·rw[aa.out];exact⟨rfl,by decide⟩
     |some b=>
      rw[hb]at lF;simp only[eG,Option.isSome_some]at lF;(obtain⟨last,cW⟩: ∃x,H.getLast?=some x:=by cases hg:H.getLast? with|none=>exact absurd (List.getLast?_eq_none_iff.1 hg) cc.out.1|some x=>exact⟨x,rfl⟩);obtain⟨Q,bh⟩:=fD H.length;(have fw:0<Q/\Q<=24:=by rw[bh];exact⟨List.length_pos_iff.2 cc.out.1,cc.out.2⟩);(have bf:H[Q-1]? =some last:=by rw[bh,<-List.getLast?_eq_getElem?];exact cW);have bn:Hid (R=if b.edge=last.edge then qL t k' l' U (J+1) H else if(⟨b.edge,rb⟩:St)∉pK t last then .error 141 else if xG H b.edge=true\/H.length=24 then .error 2 else qL t k' l' U (J+1) (H++ [⟨b.edge,rb⟩])):=ah (by rw[bm.out,hb,cW]);have al:=ah bh;have Z:=M.mb;rw[<-bh]at Z;clear hb bm cW bh;go_wp2_with(go_at_call 49;(with_reducible refine lF.mono ?_);rintro e ak⟨rfl,kQ⟩);have a4:=fK.new ak 114 #[.int .i64 b.id,.int .i64 b.edge,.int .i64 b.at_];have d1:=(aH ak ak).alloc ig (.cells #[.int .i64 b.id,.int .i64 b.edge,.int .i64 b.at_] 114);have sQ:=kQ.trans (d1.mono kQ.size);have aL:=M.below sQ;have cF:=Y.below sQ;have YR:=dx.below sQ eO;have YS:=Z.below sQ Z.lt;obtain⟨b12,IG⟩:=fD ak.heap.size;obtain⟨aq,cG⟩:=fD (ak.alloc (.cells #[.int .i64 b.id,.int .i64 b.edge,.int .i64 b.at_] 114));(have fm:b11<b12/\b12<aq.heap.size:=by rw[cG,IG];have:=kQ.size;simp;omega);rw[<-cG]at a4 aL cF YR YS ⊢;rw[<-IG]at a4 ⊢;clear cG IG d1 sQ kQ M Y dx Z lF cm d0;obtain⟨g,off,hA,cT,cR⟩:=aL.own.rows.get bf;have kl: ∀W',aq W'->W'.cell? ⟨g,off+(Q-1)*2,none⟩=some (.int .i64 last.edge)/\W'.cell? ⟨g,off+(Q-1)*2+1,none⟩=some (.bool last.rev):=λW' j=>⟨(j.cell (p:=⟨g,off+(Q-1)*2,none⟩) cT).trans (cR 0 _ rfl),(j.cell (p:=⟨g,off+(Q-1)*2+1,none⟩) cT).trans (cR 1 _ rfl)⟩;(have fx:Q<=cL:=by have:=aL.own.cap.1;rw[<-al.out]at this;exact this);(have ft:(Q:Int)-1=((Q-1:Nat):Int):=by omega);clear cR bf;subst hA;apply gu (Below aq) (λW=>aq3 gY 1) (λ_ _ _ V h2=>V.trans h2) (vN aq 999) (λ_ _ _ h=>h.1) (λ_ _=>iR _ _ _ _) (λ_ _=>True) (λ_=>trivial) (λ_ _ _ _ _ _ _=>trivial);(case lX=>intro u;simp only[bV,aq9,aP,ay,aA,aB,aT,aJ];with_reducible rfl);(case hm=>kernel_rfl);(case hB=>kernel_rfl);(case hA=>kernel_rfl);case hap=>kernel_rfl
      repeat(first
         |(apply fM.is
           ·
             (intro u w' j ap d
              simp[fO,aC,gI,Is]at d
              refine fC ?_ ?_
              ·
                first
                |rfl
                |(simp[aF,yielded,d];done)
              intro ac K
              have eS:=(YS.below j YS.lt).cell;obtain⟨m1,m2⟩:=kl _ j
              go_wp2_with (fail)
              try simp only[d]at K
              refine K _ _ ?_ rfl
              first |exact iR _ _ _ _ |exact kM j.size ag (by decide)))
         |(refine fM.one (pV aq 58 (#[.int .i64 0, .bool false] : Array Value).size) ?_ ?_
           ·
             (intro u w' j ap d
              clear d
              refine fC ?_ ?_
              ·
                first
                |rfl
                |(simp[aF,yielded];done)
              intro ac K
              go_wp2_with fail
              exact K _ _ (kM j.size jm (by decide)) ⟨w',_,rfl,j.size,fK.new w' 58 (gz:Array Value),rfl⟩))
         |(refine fM.word (CU aq 12 58 (#[])) ?_ ?_
           ·
             (intro u w' j ap d
              simp[fO,aC,gI,Is]at d
              obtain⟨⟨g,cs,c5,hg,bS,ej⟩,N⟩:=d
              refine jF ?_ ?_
              ·
                first
                |rfl
                |(simp[aF,yielded];done)
              intro ac K
              have jL: ∀k,k≠g->(w'.setRow g (#[])).heap[k]? =w'.heap[k]? :=λk j=>setRow_other w' g k _ j
              exact wp_store_row 58 _ _ rfl g (#[]) (by first | exact c5 | (rw [← c5]; rfl)) (by first | exact N | exact N.1 | (rw [← N.1]; rfl) | (rw [← N]; rfl)) 58 cs bS (by kernel_rfl) ej (by first | (simp [aK]; done) | exact lM _ _) (K undef _
                ⟨jk gY hg _,λh=>absurd rfl h,λ_=> .inr ⟨g,_,cs,(#[]),bS,bS.row _,ej.symm,by simp,jL⟩⟩
                ⟨g,by rw[jH u undef (by decide)];exact c5,hg,bS.row _⟩))))
      refine fM.last (qh ?_) ?_;(·simp only[gQ];(repeat(refine⟨?_,?_⟩;·first|exact mM _|exact qH|exact pz (λi hf e=>hf _ rfl ⟨12,.data⟩ (by simp) rfl e.symm)));exact trivial);intro u w2 ca _ d;simp only[gQ]at d;refine⟨rfl,?_⟩;intro ac K;have cH:=d 11 _ rfl;obtain⟨b14,cy,dp,dm,YT,ex⟩:=d 12 _ rfl;simp only[gI,Is]at cH;clear d;(obtain⟨z0,z1,rfl⟩: ∃z0 z1,cy= #[z0,z1]:=by(have h2:cy.toList.length=2:=by simpa using ex);match hq:cy.toList,h2 with| [z0,z1],_=>exact⟨z0,z1,Array.ext' hq⟩);have eJ:=YT.frozen;have ey:=YT.cell;have Qm:=(YT.iV 0 (.int .i64 last.edge)).iV 1 (.bool last.rev);simp only[ay,aA,aB]at Qm;have ax:=(ca.setCell (p:=⟨b14,0,none⟩) dm (.int .i64 last.edge)).setCell (p:=⟨b14,1,none⟩) dm (.bool last.rev);have bu:=a4.below ax a4.lt;have dq:=Qm.cell;have eR:=bu.cell;obtain⟨eb,cS⟩:=fD (b.edge==last.edge);have e8:(b.edge==last.edge)=eb:=cS.symm;have bk:Hid (eb=true<->b.edge=last.edge):=ah (by rw[cS,beq_iff_eq]);simp only[cH,dp];clear cS cH dp kl YS;go_upto_if 77 with fail;have Xq:=aL.below ax;have bw:=cF.below ax;have Oo:=YR.below ax YR.lt;have fh:=ax.size;obtain⟨cx,dr⟩:=fD ((w2.setCell ⟨b14,0,none⟩ (.int .i64 last.edge)).setCell ⟨b14,1,none⟩ (.bool last.rev));rw[<-dr]at Xq bw Oo Qm bu fh ⊢;clear dr ax YT eJ ey dq eR ca e8 aL cF YR a4 cK TN bL cT;cases eb with
      |false=>
       (have ec: ¬b.edge=last.edge:=λh=>by cases bk.out.2 h);have bo:Hid (R=if(⟨b.edge,rb⟩:St)∉pK t last then .error 141 else if xG H b.edge=true\/H.length=24 then .error 2 else qL t k' l' U (J+1) (H++ [⟨b.edge,rb⟩])):=ah (by rw[bn.out,if_neg ec]);have eQ:=bu.cell;have eT:=Oo.cell;have eW:=Oo.frozen 0;clear bk bn ec;go_wp2_with fail;have fp:g<b11:=ew.out g rfl;have aM:=Xq.at_ (GH cx b11 0 (.int .i64 b.edge)) (by have:=Xq.lo.2.1;omega) (by omega) (by omega) (by simp;omega) (ard Xq.sec Oo (by decide));have cz:=bw.ji (GH cx b11 0 (.int .i64 b.edge)) (by omega) (λx N=>by have:=Xq.lo.2.1;omega);have Xr:=Oo.iV 0 (.int .i64 b.edge);simp only[ay,aA,aB]at Xr;have YU:=Qm.far (p:=⟨b11,0,none⟩) (by show b14≠b11;omega) (.int .i64 b.edge);obtain⟨fl,ds⟩:=fD (cx.setCell ⟨b11,0,none⟩ (.int .i64 b.edge));rw[<-ds]at aM cz Xr YU ⊢;clear ds eQ eT eW bu Qm Oo Xq bw;have bE:=λW (h:jE W t m)=>agx h last;unfold jl.cells qB at bE;(have cX:(pK t last).length<=1000000:=by have V:=Xo t last;have h2:=hT.e2;have h3:=hT.l2;omega);obtain⟨aw,cP⟩:=fD (pK t last);rw[<-cP]at bE cX;obtain⟨hb,cU⟩:=fD (decide ((⟨b.edge,rb⟩:St)∈aw));have dc:=ah cU;have Z4:=ah cP;have bX:=λA c W (h:fE gV W A aw)=>ajR A aw.length c aw ⟨b.edge,rb⟩ W h rfl cX;rw[<-cU]at bX;unfold qB at bX;clear cU cP;apply iM;(case lX=>intro u;simp only[bV,aq9,aP,ay,aA,aB,aT,aJ];rfl);(case hm=>kernel_rfl);(case hB=>kernel_rfl);(case hap=>kernel_rfl);apply Lex.is;(·(intro u w' j d;simp[fH,aC,Is]at d;refine fF (by first |rfl |simp[aF,yielded,d]) ?_;intro ac K;have cm:=(aM.below j).tb.cell;unfold jl.cells at cm;go_wp2_with(fail);(try simp only[d]at K);refine K _ _ ?_ rfl;first|exact aH _ _|exact ag));apply Lex.is;(·(intro u w' j d;simp[fH,aC,Is]at d;refine fF (by first |rfl |simp[aF,yielded,d]) ?_;intro ac K;have dq:=(YU.below j YU.lt).cell;go_wp2_with(fail);(try simp only[d]at K);refine K _ _ ?_ rfl;first|exact aH _ _|exact ag));refine Lex.word (adB aw) (λ_ _ _ h hb=>h.grow hb) ?_ ?_;(·(intro u w' j d;refine jh rfl ?_;simp only[gQ]at d;have q0:=d ⟨0,.data⟩ (by simp) rfl _ rfl;have q1:=d ⟨1,.data⟩ (by simp) rfl _ rfl;simp only[Is]at q0 q1;clear d;intro ac K;go_wp2_with(go_at_call 133;(with_reducible refine(bE _ (hT.below (aM.below j).low)).mono ?_);rintro e w3⟨A7,c7,rfl,Gy,ag⟩);(try simp only[q0,q1]at K);exact K _ _ ag ⟨A7,c7,rfl,Gy.rows⟩));apply Lex.is;(·(intro u w' j d;simp[fH,aC,Is]at d;refine fF (by first |rfl |simp[aF,yielded,d]) ?_;intro ac K;have eK:=(Xr.below j Xr.lt).cell;go_wp2_with(fail);(try simp only[d]at K);refine K _ _ ?_ rfl;first|exact aH _ _|exact ag));refine Lex.is (c:=.bool hb) ?_ ?_;(·(intro u w' j d;refine jh rfl ?_;simp only[gQ]at d;have q2:adB aw (u 2) w':=d ⟨2,.data⟩ (by simp) rfl _ rfl;have q3:=d ⟨3,.data⟩ (by simp) rfl _ rfl;simp only[Is]at q3;obtain⟨A7,c7,q2,Gv⟩:=q2;clear d;intro ac K;go_wp2_with(go_at_call 142;(with_reducible refine(bX A7 c7 _ Gv).mono ?_);rintro e w3⟨rfl,ag⟩);(try simp only[q2,q3]at K);exact K _ _ ag rfl));(iterate 2(apply Lex.is;·(intro u w' j d;simp[fH,aC,Is]at d;refine fF (by first |rfl |simp[aF,yielded,d]) ?_;intro ac K;skip;go_wp2_with(fail);(try simp only[d]at K);refine K _ _ ?_ rfl;first|exact aH _ _|exact ag)));apply Lex.nil;intro u fz bx d;simp only[gQ]at d;have h6:=d 6 _ rfl;simp only[Is]at h6;clear d;simp only[h6];have aR:=aM.below bx;have dt:=cz.below bx;have Xt:=Xr.below bx Xr.lt;clear h6 bX bE aM cz Xr YU bx cX;cases hb with
       |false=>have aa:Hid (R=.error 141):=ah (by rw[bo.out,if_pos (by rw[<-Z4.out];exact of_decide_eq_false dc.out.symm)]);clear bo;go_wp2_with fail;go_ret;refine⟨aR.low,?_⟩;rw[aa.out];exact⟨rfl,by decide⟩
       |true=>
        have av:Hid (R=if xG H b.edge=true\/H.length=24 then .error 2 else qL t k' l' U (J+1) (H++ [⟨b.edge,rb⟩])):=ah (by rw[bo.out,if_neg (λh=>h (by rw[<-Z4.out];exact of_decide_eq_true dc.out.symm))]);clear bo;have cY:=λW (h:fE gV W (some ⟨g,off,none⟩) H)=>SA (some ⟨g,off,none⟩) Q cL H b.edge W h al.out.symm (by omega);obtain⟨ov,cA⟩:=fD (xG H b.edge);rw[<-cA]at cY;have dj:=ah cA;have Z:=aR.mb;rw[<-al.out]at Z;have eg:=aR.own.rows;clear cA;go_wp2_with fail;refine ara (by kernel_rfl) ?_;(repeat(first|(apply gX.want rfl;(·intro w' j ac Q' K;have eS:=(Z.below j Z.lt).cell;have eK:=(Xt.below j Xt.lt).cell;have cd:=eg.below j;go_wp2_with((go_at_call 134;(with_reducible refine(cY _ cd).mono ?_);rintro e w3⟨rfl,ag⟩));first|exact aH _ _|exact ag);(·simp only[aP,ay,aA,aB];rfl))|(apply gX.skip rfl;·simp only[aP,ay,aA,aB];rfl)));refine gX.nil ?_;intro w' j;have GN:=aR.below j;have cB:=dt.below j;have Qm:=Xt.below j Xt.lt;have Oq:=Z.below j Z.lt;have ez:=Oq.cell;clear cY eg Z aR dt Xt j;cases ov with
        |false=>
         by_cases a1:Q=24;·(have e9:((Q:Int)==24)=true:=by rw[a1];rfl);have aa:Hid (R=.error 2):=ah (by rw[av.out,if_pos (.inr (by rw[<-al.out];exact a1))]);clear av a1;go_wp2_with fail;go_ret;refine⟨GN.low,?_⟩;rw[aa.out];exact⟨rfl,by decide⟩
         ·(have e9:((Q:Int)==24)=false:=by rw[beq_eq_false_iff_ne];omega);have aa:Hid (R=qL t k' l' U (J+1) (H++ [⟨b.edge,rb⟩])):=ah (by rw[av.out,if_neg];rintro (h |h);rw[<-dj.out]at h;cases h;rw[<-al.out]at h;exact a1 h);(have fq:Q<=23:=by omega);clear av a1;go_wp2_with fail;obtain⟨AL,cI⟩:=fD (some ⟨g,off,none⟩:Option Addr);(have eZ: ∀x,AL.map (·.block)=some x->x=g:=λx N=>by rw[cI]at N;injection N with N;exact N.symm);rw[<-cI]at GN Oq;clear cI ez e9;have ho:=GN.own;have hz:=ah al.out.symm;have ed: ¬AL.map (·.block)=some gm:=ard ho Oq (by decide);(have fd: ¬AL.map (·.block)=some b11:=λe=>by have:=eZ b11 e;omega);have eL: ¬AL.map (·.block)=some bt:=ard ho GN.tb (by decide);have fe: ¬AL.map (·.block)=some (bt+1):=ard ho (Classical.choose_spec (Classical.choose_spec cB.blk)).1 (by decide);(have d2:Bq<=w'.heap.size:=by have:=Qm.lt;omega);obtain⟨zs,et⟩:=fD H;obtain⟨wq,en⟩:=fD w';rw[<-et]at ho hz;rw[<-en]at GN cB Qm Oq ho d2 ⊢;clear en;apply qp (λw w'=>w.grownBy w' (AL.map (·.block))) (λw=>arj (aq3 gY 1) _) (λ_ _ _=>lN) (CW (AL.map (·.block)) 7) (λ_ _ _ h=>h.2) (λi W=>i=7->aq1 gV 58 W (Bq) AL cL zs) (λ_ _=>ho.below (aq3 gY 1)) (λi fy W W' e0 hp ht hi=>(hp hi).below (ht.1 (λh=>e0 (hi.trans h.symm))));(case lX=>intro u;simp only[bV,List.dropLast,aq9,aP,ay,aA,aB,aT,aJ];with_reducible rfl);(case hm=>kernel_rfl);(case hB=>kernel_rfl);(case hA=>kernel_rfl);case hap=>kernel_rfl
          repeat(first
             |(apply kE.is
               ·
                 (intro u w' j ap d
                  clear ap
                  simp[fH,aC,Is]at d
                  refine fC ?_ ?_
                  ·
                    first
                    |rfl
                    |(simp[aF,yielded,d];done)
                  intro ac am
                  have m1:=(Oq.ji (jV.kJ (D:=λk=>AL.map (·.block)=some k) j (λk j=>j)) ed).cell;have m2:=(Qm.ji (jV.kJ (D:=λk=>AL.map (·.block)=some k) j (λk j=>j)) fd).cell
                  go_wp2_with (fail)
                  try simp only[d]at am
                  refine am _ _ ?_ rfl
                  exact vT _ _ _ _))
             |(refine kE.word (Gm 58 (AL.map (·.block)) #[.int .i64 b.edge, .bool rb]) ?_ ?_
               ·
                 (intro u w' j ap d
                  clear ap
                  simp[fH,aC,Is]at d
                  refine fC ?_ ?_
                  ·
                    first
                    |rfl
                    |(simp[aF,yielded,d];done)
                  intro ac am
                  go_wp2_with fail
                  try simp only[d]at am
                  exact am _ _ (uw jm) ⟨w',rfl,fK.new _ _ _,λe=>by have:=(ho.gJ _ e).2;have:=j.size;omega⟩))
             |(refine kE.word (PN gV 58 (Bq) (Q + 1) (zs ++ [⟨b.edge, rb⟩])) ?_ ?_
               ·
                 (intro u w' j ap d
                  simp[fH,aC,Is]at d
                  obtain⟨q1,bv,q2,hB,hn⟩:=d
                  refine fC ?_ ?_
                  ·
                    first
                    |rfl
                    |(simp[aF,yielded];done)
                  intro ac am
                  exact oH RN (.tmp 106) (.tmp 108) rfl (Bq) AL cL zs Q (by rw[<-q1];rfl) hz.out (ap rfl) (some ⟨bv,0,none⟩) 1 [⟨b.edge,rb⟩] 1 (by rw[<-q2];rfl) rfl (adA hB) (by omega) (by decide) (aG d2 j.size) λA2 c2 W V h2 _=>am _ _ ⟨λh=>absurd rfl h,h2⟩ ⟨A2,c2,rfl,V⟩)))
          refine kE.last ?_ ?_;(·refine Ai ?_;simp only[gQ];(repeat(refine⟨?_,?_⟩;·first|exact λ_ _ _ _ _ h _=>h|exact λ_ _ _ _ _ h ht=>Gm.grow h ht.2|exact λ_ hi _ _ _ h ht=>PN.grow h (ht.1 hi)));exact trivial);intro u w2 ca _ d;simp only[gQ]at d;obtain⟨A2,c2,hu,uq⟩:=d 7 _ rfl;have Xl:=d 9 _ rfl;simp only[Is]at Xl;clear d;refine⟨rfl,?_⟩;intro ac am;have ar:=jV.kJ (D:=λk=>AL.map (·.block)=some k) ca (λk j=>j);have Qa:=Oq.ji ar ed;have fn:=Qa.cell;have fo:=Qa.frozen 2;simp only[hu,Xl];clear hu Xl;go_wp2_with fail;go_roundw;(case rel=>have kc:=GH w2 gm 2 (.slice A2 (Q+1) c2);have ad:=GN.lo;have fg:=GN.own.gJ;(have d3: ∀x,AL.map (·.block)=some x->w0.heap.size<=x:=λx N=>by have:=fg x N;omega);(have eN:bt≠gm:=by omega);have L6:bt+1≠gm:=λe=>IQ e.symm;(have eM:Vz w0 m gm bt Bq ref rev As cs ss gap (H++ [⟨b.edge,rb⟩]) A2 c2 (w2.setCell ⟨gm,2,none⟩ (.slice A2 (Q+1) c2)):=by refine⟨(GN.low.trans (ar.below ad.2.2.2 d3)).trans (kc.below (aG ad.2.2.2 ar.size) (λx N=>by omega)),(GN.tb.ji ar eL).ji kc eN,?_,?_,?_,⟨ad.1,ad.2.1,ad.2.2.1,aG ad.2.2.2 (aG ar.size kc.size)⟩⟩;(·rw[bC,<-al.out];exact Qa.iV 2 _);(·rw[<-et];exact uq.ji kc (λx N d=>ard uq Qa (by decide) (by rw[N,d])));·have V:=GN.sec.ji ar (λx N=>oQ GN.sec GN.own (by decide) x N);exact V.ji kc (λx N d=>ard V Qa (by decide) (by rw[N,d])));exact⟨U,J+1,l',k',H++ [⟨b.edge,rb⟩],A2,c2,rfl,rfl,by omega,ah (by omega),aD.out.1,aD.out.2.1,eM,(cB.ji ar fe (λx N=>d3 x N)).ji kc L6 (λx N=>by omega),ah ⟨by simp,by rw[bC,<-al.out];simp;omega⟩,df,dg,aa⟩);case measure=>exact Om d4 d9.out aD.out
        |true=>have aa:Hid (R=.error 2):=ah (by rw[av.out,if_pos (.inl dj.out.symm)]);clear av;go_wp2_with fail;go_ret;refine⟨GN.low,?_⟩;rw[aa.out];exact⟨rfl,by decide⟩
      |true=>have aa:Hid (R=qL t k' l' U (J+1) H):=ah (by rw[bn.out,if_pos (bk.out.1 rfl)]);clear bk bn;go_wp2_with fail;go_roundw;(case rel=>exact⟨U,J+1,l',k',H,_,cL,rfl,rfl,by omega,ah (by omega),aD.out.1,aD.out.2.1,Xq,bw,cc,df,dg,aa⟩);case measure=>exact Om d4 d9.out aD.out
   ·(have e1:(x1 != 1)=true:=by simpa using af);have aa:Hid (R=.error 20):=ah (by rw[HX.out,if_pos af]);clear af HX;go_wp2_with(first|(go_at_call 272;(with_reducible refine(q0 _ Y).mono ?_);rintro e w3⟨rfl,bi,aE⟩;have bN:=M.pr Y (mD bi) ae IQ)|(go_at_call 272;(with_reducible refine(q1 _ aE).mono ?_);rintro e w4⟨rfl,bj,cf⟩;have bO:=bN.pr aE (mD bj) ae IQ));go_ret;refine⟨bO.low,?_⟩;rw[aa.out];exact⟨rfl,by decide⟩
  ·(have eV:decide (J<O)=false:=by simpa using au);have aa:Hid (R=.ok H):=ah (by rw[bR.out,qL,if_neg au]);replace au:=Int.not_lt.1 au;clear cM bR bd;go_wp2_with fail;go_ret;refine⟨M.low,?_⟩;rw[aa.out];exact⟨rfl,AL,cL,M.mb,M.own,M.sec⟩
structure nH (w:World) (base:Nat) (x:Tr) (m:kZ):Prop where
  path:aq1 gV 58 w base m.v.A1 m.v.c1 x.ma.path
  fP:aq1 kW 60 w base m.v.A2 m.v.c2 x.ma.fP
  stops:aq1 aq7 3 w base m.A3 m.c3 x.stops
  e1:x.ma.path.length=m.v.n1
  e2:x.ma.fP.length=m.v.n2
  e3:x.stops.length=m.n3
  l1:m.v.n1<=100
  l2:m.v.n2<=100
  l3:m.n3<=100
theorem nH.is{m:kZ}(h:nH w base x m):zJ w x m:=⟨⟨h.path.rows,h.fP.rows,h.e1,h.e2,h.l1,h.l2,by rw[<-h.e1];exact h.path.cap.1,by rw[<-h.e2];exact h.fP.cap.1⟩,h.stops.rows,h.e3,h.l3,by rw[<-h.e3];exact h.stops.cap.1⟩
theorem nH.below{m:kZ}(h:nH w base x m)(d:w w'):nH w' base x m:={h with path:=h.path.below d,fP:=h.fP.below d,stops:=h.stops.below d}
theorem nH.mono{base':Nat}{m:kZ}(h:nH w base x m)(d:base'<=base):nH w base' x m:={h with path:=h.path.mono d,fP:=h.fP.mono d,stops:=h.stops.mono d}
theorem nH.far{m:kZ}(h:nH w base x m)(j:g<base)(d: ∀k,k≠g->w'.heap[k]? =w.heap[k]?):nH w' base x m:={h with path:=h.path.far j d,fP:=h.fP.far j d,stops:=h.stops.far j d}
theorem aal(x:Tr)(m:kZ)(A:Option Addr)(c:Nat):(jf x m).setIfInBounds 42 (.slice A m.v.n1 c)=jf x {m with v:={m.v with A1:=A,c1:=c}}:=rfl
theorem aam(x:Tr)(m:kZ)(A:Option Addr)(c:Nat):(jf x m).setIfInBounds 43 (.slice A m.v.n2 c)=jf x {m with v:={m.v with A2:=A,c2:=c}}:=rfl
theorem aan(x:Tr)(m:kZ)(A:Option Addr)(c:Nat):(jf x m).setIfInBounds 47 (.slice A m.n3 c)=jf x {m with A3:=A,c3:=c}:=rfl
theorem YV(x:Tr)(m:kZ)(i:Nat)(hi:i<48):i<(jf x m).size:=hi
def GR (m:kZ) (A1:Option Addr) (c1:Nat) (A2:Option Addr) (c2:Nat) (A3:Option Addr) (c3:Nat):kZ:={m with v:=⟨A1,m.v.n1,c1,A2,m.v.n2,c2⟩,A3:=A3,c3:=c3}
def aao (x:Tr) (m:kZ) (w:World) (e:Ending) (w':World):Prop:=(∃A1 c1 A2 c2 A3 c3,e=.returned (.agg (jf x (GR m A1 c1 A2 c2 A3 c3)))/\nH w' w x (GR m A1 c1 A2 c2 A3 c3))/\w w'
theorem adG(x:Tr)(m:kZ)(w:World)(j:zJ w x m):Calls aj 23 #[.agg (jf x m)] w (aao x m w):=by have d:Own w _ [_,_]:=Own.iY w 44 44 (jf x m) fY;have Y:=d.b0.cell;have ak:=Zy x m;have ai:=Wj x m;have aa:=Wn x m;have ae:=λW (Q:w W)=>VW m.v.A1 m.v.n1 m.v.c1 x.ma.path W (j.ma.path.below Q) j.ma.e1 (by have:=j.ma.l1;omega);have af:=λW (Q:w W)=>abL m.v.A2 m.v.n2 m.v.c2 x.ma.fP W (j.ma.fP.below Q) j.ma.e2 (by have:=j.ma.l2;omega);have ag:=λW (Q:w W)=>alH m.A3 m.n3 m.c3 x.stops W (j.stops.below Q) j.e3 (by have:=j.l3;omega);go_enter func23,ntmps23;go_wp2_with(first|((with_reducible refine(ae _ d.below).mono ?_);rintro O M⟨A1,c1,rfl,H,J⟩;replace d:=d.grow J)|((with_reducible refine jq 42 (.slice A1 m.v.n1 c1) d rfl 39 _ _ rfl rfl rfl (by kernel_rfl) ?_ rfl ?_);(·grind);intro O M J K;replace d:=M;replace H:=H.far (by simp;omega) K;rw[aal]at d;have V:=d.b0.lt;have ac:=d.b1.lt;have Y:=d.b0.cell;have ai:=Wj x {m with v:={m.v with A1:=A1,c1:=c1}};have aa:=Wn x {m with v:={m.v with A1:=A1,c1:=c1}})|((with_reducible refine(af _ d.below).mono ?_);rintro O M⟨A2,c2,rfl,N,J⟩;replace d:=d.grow J;replace H:=H.below J)|((with_reducible refine jq 43 (.slice A2 m.v.n2 c2) d rfl 40 _ _ rfl rfl rfl (by kernel_rfl) ?_ rfl ?_);(·exact YV x _ 43 (by decide));intro O M J K;replace d:=M;replace H:=H.far (by simp;omega) K;replace N:=N.far V K;rw[aam x {m with v:={m.v with A1:=A1,c1:=c1}}]at d;have Z:=d.b0.lt;have ad:=d.b1.lt;have Y:=d.b0.cell;have aa:=Wn x {m with v:=⟨A1,m.v.n1,c1,A2,m.v.n2,c2⟩})|((with_reducible refine(ag _ d.below).mono ?_);rintro O M⟨A3,c3,rfl,U,J⟩;replace d:=d.grow J;replace H:=H.below J;replace N:=N.below J)|((with_reducible refine jq 47 (.slice A3 m.n3 c3) d rfl 22 _ _ rfl rfl rfl (by kernel_rfl) ?_ rfl ?_);(·exact YV x _ 47 (by decide));intro O M J K;replace d:=M;replace H:=H.far (by simp;omega) K;replace N:=N.far V K;replace U:=U.far Z K;rw[aan x {m with v:=⟨A1,m.v.n1,c1,A2,m.v.n2,c2⟩}]at d)|((with_reducible refine gK d ?_ _ rfl rfl _ bg rfl (iF x _) ?_);(·rfl))|((with_reducible refine kY (jf x (GR m A1 c1 A2 c2 A3 c3)) d rfl _ _ rfl rfl rfl (iF x _) rfl (lM x _) ?_);intro O M J K;replace d:=M;replace H:=H.far (by simp) K;replace N:=N.far ac K;replace U:=U.far ad K));exact bodyPost_ret (nC results23 _ _ _ _ _ rfl d.b1 bg rfl (iF x _)) rfl ⟨⟨A1,c1,A2,c2,A3,c3,rfl,H.mono (by simp <;> omega),N.mono (Nat.le_of_lt V),U.mono (Nat.le_of_lt Z),j.ma.e1,j.ma.e2,j.e3,j.ma.l1,j.ma.l2,j.l3⟩,d.below⟩
end Go.Proofs.YthnmgjngniciaaaGreatDoor
