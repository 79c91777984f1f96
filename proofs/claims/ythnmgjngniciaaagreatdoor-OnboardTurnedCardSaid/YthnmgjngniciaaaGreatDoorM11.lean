/- Parts. -/
import Derived.Test.YthnmgjngniciaaaGreatDoorM10
import Derived.Test.YthnmgjngniciaaaGreatDoorM09
import Derived.Test.YthnmgjngniciaaaGreatDoorM04
set_option linter.all false
set_option maxHeartbeats 16000000
set_option maxRecDepth 8000
open List renaming drop_of_length_le→dJ,getElem?_cons_succ→fB,getElem?_cons_zero→eP,getElem?_eq_getElem→aI,getElem?_eq_none→dQ,getElem?_map→bW,getElem?_take_of_lt→dG,map→bV,setIfInBounds_toArray→ay,set_cons_succ→aB,set_cons_zero→aA,take_of_length_le→aY
open Nat renaming add_zero→bI,le_refl→aW,le_trans→aG,lt_of_lt_of_le→aU,lt_or_ge→eu,reduceAdd→aT,zero_add→aJ,zero_le→aV
open Option.some renaming injEq→aO
namespace Go.Proofs.YthnmgjngniciaaaGreatDoor
open Go.RowKit Go.Shelf Tryz
open Act renaming put→aP
open Below renaming refl→aH
open Lib renaming hid→ah
open Region renaming binds→aC,wanted→aF
open Tryz renaming prog→aj
variable{StE:(Nat->Prop)->World->Prop}{ops:Array Oper}{cap cs:Array Value}{F:FuncId}{B K i s:Nat}{T T':Nat->Prop}{R:Option Nat}{v:Value}{Φ:Value->World->Prop}{W W' W'' a b c w w' wp:World}{G S:World->World->Prop}
section
section
variable {B:Nat} {w0 W:World} {L:List (Option Addr × Pt)}
theorem ars.rep{A:Option Addr}{n c:Nat}{p:Pt}{K:Ending->World->Prop}(h:ars B w0 W L)(hm:(A,p)∈L)(hn:n=p.len)(d:p.len<=100)(k: ∀A c w',ars B w0 w' ((A,DJ p)::L)->K (.returned (.slice A (DJ p).len c)) w'):Calls aj 248 #[.slice A n c] W K:=by subst hn;exact h.call (PK A c p W (h.t _ hm) d h.le) k
theorem ars.report{A:Option Addr}{n c:Nat}{p:Pt}{K:Ending->World->Prop}(h:ars B w0 W L)(hm:(A,p)∈L)(hn:n=p.len)(d:p.len<=100)(k: ∀A c w',ars B w0 w' ((A,JI p)::L)->K (.returned (.slice A (JI p).len c)) w'):Calls aj 243 #[.slice A n c] W K:=by subst hn;exact h.call (WG A c p W (h.t _ hm) d h.le) k
end
def vF (B:Nat) (w:World) (q:Option Pt) (e:Ending) (w':World):Prop:= ∃A n c,e=.returned (.slice A n c)/\w w'/\match q with |none=>A=none/\n=0/\c=0 |some p=>A≠none/\n=p.len/\sO B w' A p
theorem rF.parts{B:Nat}{w:World}{p:Pt}{e:Ending}{w':World}(h:rF B w p e w')(O:0<p.len):vF B w (some p) e w':=by obtain⟨A,c,M,⟨xs,d,j⟩,J⟩:=h;refine⟨A,p.len,c,M,J,?_,rfl,xs,d,j⟩;have Q:=j.len;obtain⟨x,N⟩: ∃x,xs[0]? =some x:=⟨xs[0],aI (by omega)⟩;obtain⟨b,off,H,_⟩:=d.1.get N;rw[H];exact λh=>by cases h
theorem WI{B:Nat}{w:World}{q:Option Pt}{p:Pt}{e:Ending}{w':World}(j:q=some p)(h:rF B w p e w')(d:0<p.len):vF B w q e w':=by rw[j];exact h.parts d
theorem Gl(id:Int){B:Nat}(w:World)(hB:B<=w.heap.size):Calls aj 218 #[.int .i64 id] w (vF B w (lu id)):=by
 have d:=(ars.start w hB).push gY (sO.nil B w none);have H:id=0\/id=1\/id=3\/id=5\/id=11\/id=15\/id=21\/id=27\/id=42\/id=57\/id=58\/id=80\/(id≠0/\id≠1/\id≠3/\id≠5/\id≠11/\id≠15/\id≠21/\id≠27/\id≠42/\id≠57/\id≠58/\id≠80):=by omega
 rcases H with rfl |rfl |rfl |rfl |rfl |rfl |rfl |rfl |rfl |rfl |rfl |rfl |H;iterate 12(refine Calls.mono (R:=rF B w _) ?_ λ_ _ h=>WI rfl h (by decide);go_enter func218,ntmps218;go_wp2_with(first|((first|(go_at_call 244;(with_reducible apply d.row);(·rfl);(·rfl);(·decide))|(go_at_call 245;(with_reducible apply d.and);(·repeat(first|exact arA.nil|(apply arA.cons;(·repeat(first|exact List.Mem.head _|apply List.Mem.tail));(·rfl))));(·rfl);(·decide);(·repeat(first|exact trivial|(refine⟨by first |assumption |exact Nat.le_of_ble_eq_true rfl,?_⟩))))|(go_at_call 247;(with_reducible apply d.some);(·repeat(first|exact List.Mem.head _|apply List.Mem.tail));(·rfl))|(go_at_call 246;refine d.call (SV _ d.le) ?_)|((first|(go_at_call 248;(with_reducible apply d.rep))|(go_at_call 243;(with_reducible apply d.report)));(·repeat(first|exact List.Mem.head _|apply List.Mem.tail));(·rfl);(·decide))|(go_at_call 249;refine d.call (acF _ d.le) ?_)|(go_at_call 251;refine d.call (WH _ d.le) ?_)|(go_at_call 250;refine d.call (Md _ d.le) ?_));clear d;intro fU fJ iG d));go_ret;exact⟨_,_,rfl,d.t _ (.head _),d.b⟩)
 obtain⟨J,M,V,Z,N,O,Q,U,Y,aa,ac,ad⟩:=H;have hn:lu id=none:=by simp[lu, *]
 rw[hn];have j: ∀k:Int,id≠k->(id==k)=false:=λk h=>by simpa using h
 have f0:=j 0 J;have f1:=j 1 M;have f3:=j 3 V;have f5:=j 5 Z;have ae:=j 11 N;have af:=j 15 O;have ag:=j 21 Q;have ai:=j 27 U;have ak:=j 42 Y;have al:=j 57 aa;have am:=j 58 ac;have an:=j 80 ad;clear hn d j;go_enter func218,ntmps218;go_wp2;go_ret;exact⟨none,0,0,rfl,aH _ _,rfl,rfl,rfl⟩
end
structure Grow (G:World->World->Prop):Prop where
  drew: ∀w:World,G w w.drew
  trans: ∀a b c,G a b->G b c->G a c
  below: ∀w w',w w'->G w w'
def Ag (K:Nat) (G:World->World->Prop) (i:Nat) (w w':World):Prop:=(i≠K->w w')/\(i=K->G w w')
theorem Ag.g(h:Ag K G i w w')(d:Grow G):G w w':=by
 by_cases e:i=K;·exact h.2 e
 ·exact d.below _ _ (h.1 e)
theorem Ah(hi:i≠K)(h:w w'):Ag K G i w w':=⟨λ_=>h,λe=>absurd e hi⟩
theorem yS(hi:i≠K):Ag K G i w w:=Ah hi gY
theorem JJ(h:G w w'):Ag K G K w w':=⟨λe=>absurd rfl e,λ_=>h⟩
theorem DK(d:Grow G)(i:Nat)(w:World):Ag K G i w w:=⟨λ_=>aH _ _,λ_=>d.below _ _ gY⟩
def Ja (ops:Array Oper) (K:Nat) (S:World->World->Prop) (j:Nat) (Ω:(Nat->Value)->World->Prop):Prop:= ∀i,i≠j->mY ops i j-> ∀u v w w',Ω u w->Ag K S i w w'->Ω (upd u i v) w'
def StX (ops:Array Oper) (K:Nat) (S:World->World->Prop):Nat->List ((Nat->Value)->World->Prop)->Prop
 |_,[]=>True
 |j,Ω::l=>Ja ops K S j Ω/\StX ops K S (j+1) l
theorem acH: ∀(l:List ((Nat->Value)->World->Prop)) (k:Nat),StX ops K S k l-> ∀j d,l[j]? =some d->Ja ops K S (k+j) d
 | [],_,_,j,d,h=>by simp at h
 |Ψ::l,k,h,0,d,hj=>by simp at hj;subst hj;exact h.1
 |Ψ::l,k,h,j+1,d,hj=>by have:=acH l (k+1) h.2 j d (by grind);grind
theorem DL{d:Nat}(c:Value):Ja ops K S d (gI d (Is c)):=λ_ j _ _ _ _ _ h _=>jy j h λ_ h=>h
theorem yT(j: ∀v w w',Φ v w->w w'->Φ v w'):Ja ops K S K (gI K Φ):=λ_ d _ _ _ _ _ h H=>jy d h λ_ h=>j _ _ _ h (H.1 d)
theorem JK{H:List ((Nat->Value)->World->Prop)}(h:StX ops K S 0 H): ∀i d (j:(Nat->Value)->World->Prop),i≠d->i<H.length->mY ops i d->H[d]? =some j-> ∀u v w w',j u w->Ag K S i w w'->j (upd u i v) w':=by intro i d j M _ J N u v W W' Q O;have:=acH _ 0 h d j N;rw[aJ]at this;exact this i M J u v W W' Q O
structure Ext (T:Nat->Prop) (W:World) (T':Nat->Prop) (W':World):Prop where
  os:W'.os=W.os
  tape:W'.tape=W.tape
  output:W'.output=W.output
  size:W.heap.size<=W'.heap.size
  same: ∀k,k<W.heap.size-> ¬T k->W'.heap[k]? =W.heap[k]?
  sub: ∀k,T' k->T k\/W.heap.size<=k
theorem Ext.refl(T:Nat->Prop)(W:World):Ext T W T W:=⟨rfl,rfl,rfl,aW _,λ_ _ _=>rfl,λ_ h=> .inl h⟩
theorem Ext.trans{d:Nat->Prop}(h:Ext T W T' W')(k:Ext T' W' d W''):Ext T W d W'':=⟨k.os.trans h.os,k.tape.trans h.tape,k.output.trans h.output,aG h.size k.size,λi hi hn=>(k.same i (aU hi h.size) λc=>(h.sub i c).elim hn λc=>absurd hi (Nat.not_lt.2 c)).trans (h.same i hi hn),λi c=>(k.sub i c).elim (h.sub i) λc=> .inr (aG h.size c)⟩
theorem Ext.of_below(h:W W'):Ext T W T W':=⟨h.os,h.tape,h.output,h.size,λk d _=>h.block k d,λ_ h=> .inl h⟩
theorem fK.ext{g:Nat}{t:TypeId}(h:fK w g t cs)(d:Ext T w T' W)(hn: ¬T g):fK W g t cs:=by have:=d.same g h.lt hn;unfold fK at*;grind
theorem lZ.ext{A:Option Addr}{xs:List Vu}(h:lZ B wp A xs)(H:Ext T w T' W)(M:wp.heap.size<=w.heap.size)(J: ∀k,B<=k->k<wp.heap.size->w.heap[k]? =wp.heap[k]? /\ ¬T k):fE arQ W A xs:=(h.keep (λk j d=>(H.same k (aU d M) (J k j d).2).trans (J k j d).1) (aG M H.size)).1
structure CJ (T:Nat->Prop) (W W':World):Prop where
  os:W'.os=W.os
  tape:W'.tape=W.tape
  output:W'.output=W.output
  size:W.heap.size<=W'.heap.size
  same: ∀k,k<W.heap.size-> ¬T k->W'.heap[k]? =W.heap[k]?
theorem Ext.r(h:Ext T W T' W'):CJ T W W':=⟨h.os,h.tape,h.output,h.size,h.same⟩
theorem Ext.after(h:CJ T W W')(k:Ext T W' T' W''):Ext T W T' W'':=⟨k.os.trans h.os,k.tape.trans h.tape,k.output.trans h.output,aG h.size k.size,λi hi hn=>(k.same i (aU hi h.size) hn).trans (h.same i hi hn),λi c=>(k.sub i c).elim .inl λc=> .inr (aG h.size c)⟩
theorem NV(T:Nat->Prop):Grow (CJ T):=⟨λw=>⟨rfl,rfl,rfl,aW _,λ_ _ _=>rfl⟩,λa b c h k=>⟨k.os.trans h.os,k.tape.trans h.tape,k.output.trans h.output,aG h.size k.size,λi hi hn=>(k.same i (aU hi h.size) hn).trans (h.same i hi hn)⟩,λw w' h=>⟨h.os,h.tape,h.output,h.size,λk d _=>h.block k d⟩⟩
theorem CJ.trans'(h:CJ T a b)(k:CJ T b c):CJ T a c:=(NV T).trans _ _ _ h k
theorem fK.ext'{g:Nat}{t:TypeId}(h:fK w g t cs)(d:CJ T w W)(hn: ¬T g):fK W g t cs:=by have:=d.same g h.lt hn;unfold fK at*;grind
theorem CJ.blk{g:Nat}{t:TypeId}(h:fK w g t cs)(d:CJ T w W)(hn: ¬T g):fK W g t cs:=by have:=d.same g h.lt hn;unfold fK at*;grind
def ajc {σ:Type} (St:σ->(Nat->Prop)->World->Prop) (T:Nat->Prop) (w0:World) (n:Int) (s':σ) (v:Value) (w:World):Prop:=v=.int .i64 n/\ ∃T',Ext T w0 T' w/\St s' T' w
structure Clo {σ:Type} (F:FuncId) (cap:Array Value) (val:Int->σ->Except Int (Int × σ)) (St:σ->(Nat->Prop)->World->Prop) (StE:(Nat->Prop)->World->Prop) (BN:σ->Nat):Prop where
  keep: ∀v s n s',val v s=.ok (n,s')->BN s<=BN s'+(if v=7 then 1 else 0)
  below: ∀s T W W',St s T W->W W'->St s T W'
  inn: ∀s T W,St s T W-> ∀k,T k->k<W.heap.size
  bound: ∀v s n s',val v s=.ok (n,s')->n<=4294967295
  enter: ∀(args:Array Value) (W:World),(callFunc F args).run aj W=.ok (.enter F args) W
  call: ∀v s T W,St s T W->(v=7->0<BN s)->Calls aj F (#[.int .i64 v]++cap) W fun e W'=> ∃T',Ext T W T' W'/\match val v s with
    | .ok (n,s')=>e=.returned (.int .i64 n)/\St s' T' W'
    | .error er=>e=.panicked [{v:=.iface 314 (.agg #[.int .i64 er]),recovered:=false}]/\StE T' W'
def Pt.need:Pt->Nat
 | .nil=>0
 | .pl v r=>r.need+(if v=7 then 1 else 0)
 | .grp _ _ r=>r.need
def Pt.wf:Pt->Prop
 | .nil=>True
 | .pl _ r=>r.wf
 | .grp k l r=>(k=1\/k=2\/k=3)/\l.len<=1000/\l.need=0/\l.wf/\r.wf
theorem wL{σ:Type}{val:Int->σ->Except Int (Int × σ)}{k:Int}{l r:Pt}{last:Int}{s:σ}:mV val (.grp k l r) last s=match jg (mV val l 0) (qC k last) s with
    | .error e=> .error e
    | .ok s'=>mV val r last s':=by
  rfl
theorem DN{σ:Type}{BN:σ->Nat}{f:σ->Except Int σ}(h: ∀s s',f s=.ok s'->BN s<=BN s'): ∀(n:Nat) (s s':σ),jg f n s=.ok s'->BN s<=BN s'
 |0,s,s',e=>by rw[jg]at e;grind
 |n+1,s,s',e=>by rw[jg]at e;cases d:f s with|error x=>grind|ok j=>rw[d]at e;exact aG (h _ _ d) (DN h n j s' e)
theorem EP{σ:Type}{BN:σ->Nat}{val:Int->σ->Except Int (Int × σ)}(j: ∀v s n s',val v s=.ok (n,s')->BN s<=BN s'+(if v=7 then 1 else 0)): ∀(p:Pt) (last:Int) (s s':σ),p.wf->mV val p last s=.ok s'->BN s<=BN s'+p.need
 | .nil,_,s,s',_,e=>by rw[mV]at e;grind
 | .pl v r,last,s,s',H,e=>by rw[mV]at e;cases d:val v s with|error x=>grind|ok U=>obtain⟨n,J⟩:=U;rw[d]at e;have M:=j _ _ _ _ d;have N:=EP j r n J s' H e;simp only[Pt.need];omega
 | .grp k l r,last,s,s',H,e=>by rw[wL]at e;obtain⟨_,_,V,O,Q⟩:=H;cases d:jg (mV val l 0) (qC k last) s with|error x=>grind|ok J=>rw[d]at e;have M:=DN (BN:=BN) (λa b h=>by have:=EP j l 0 a b O h;omega) _ _ _ d;have N:=EP j r last J s' Q e;simp only[Pt.need];omega
def yU {σ:Type} (St:σ->(Nat->Prop)->World->Prop) (StE:(Nat->Prop)->World->Prop) (T:Nat->Prop) (w:World) (q:Except Int σ) (e:Ending) (W':World):Prop:= ∃T',Ext T w T' W'/\match q with
 | .ok s'=>e=.returned (.tuple #[])/\St s' T' W'
 | .error er=>e=.panicked [{v:=.iface 314 (.agg #[.int .i64 er]),recovered:=false}]/\StE T' W'
theorem ZC{σ:Type}{val:Int->σ->Except Int (Int × σ)}{St:σ->(Nat->Prop)->World->Prop}{BN:σ->Nat}(C:Clo F cap val St StE BN){w0:World}{n:Int}{s':σ}(h:ajc St T w0 n s' v w)(d:w w'):ajc St T w0 n s' v w':=by obtain⟨e,T',j,H⟩:=h;exact⟨e,T',j.trans (Ext.of_below d),C.below _ _ _ _ H d⟩
theorem SY{σ:Type}{val:Int->σ->Except Int (Int × σ)}{St:σ->(Nat->Prop)->World->Prop}{BN:σ->Nat}(C:Clo F cap val St StE BN)(g:Nat)(ag:Nat): ∀(p:Pt) (hN:p.size<ag) (bE:p.wf) (A:Option Addr) (c n:Nat) (hn:p.len=n) (s:σ) (T:Nat->Prop) (w:World) (hs:St s T w) (bk:p.need<=BN s) (hp:sO B wp A p) (ax:wp.heap.size<=w.heap.size) (bf: ∀k,B<=k->k<wp.heap.size->w.heap[k]? =wp.heap[k]? /\ ¬T k) (hl:n<=1000) (hg:fK w g 316 #[.func (.func F) #[] cap]) (a1: ¬T g),Calls aj 217 #[.pointer g,.slice A n c] w (yU St StE T w (mV val p 0 s)):=by
 induction ag with
 |zero=>intro p hN;exact absurd hN (Nat.not_lt_zero _)
 |succ ag ih=>
  intro p hN bE A c n hn s T w hs bk hp ax bf hl hg a1;obtain⟨xs,hx,hm⟩:=hp;have bO:xs.length=n:=by rw[hm.len,hn]
  have bj:=ah bO;have HM:=ah hm;have aL:=ah bf;clear bO hm bf hn;go_enter func217,ntmps217;go_wp2;go_loopw [4,9] (λla i wr=> ∃(k:Nat) (last:Int) (s':σ) (T':Nat->Prop) (r:Pt),Hid (r.size<ag+1/\r.wf/\r.need<=BN s')/\Hid (last<=4294967295)/\i=.int .i64 k/\k<=n/\la=.int .i64 last/\St s' T' wr/\Ext T w T' wr/\Hid (kX B wp r (xs.drop k))/\Hid (mV val p 0 s=mV val r last s')) (λ_ i _=>n-(intOf i).toNat);case atStart=>exact⟨0,0,s,T,p,ah ⟨hN,bE,bk⟩,ah (by decide),rfl,aV _,rfl,hs,Ext.refl _ _,ah (by rw[List.drop_zero];exact HM.out),ah rfl⟩
  case round=>
   obtain⟨k,last,s',T',r,ac,a5,rfl,hk,rfl,aD,M,hr,ad⟩:=hrel;by_cases ci:k<n
   ·obtain⟨x,bN⟩:=aq5 bj.out ci;have j:xs.drop k=x::xs.drop (k+1):=ark bN;have a4:fK wr g 316 #[.func (.func F) #[] cap]:=hg.ext M a1;have cn:=hx.ext M ax aL.out;obtain⟨gb,off,hA,ba,hc⟩:=cn.get bN;have a0:=hc 0 _ rfl;have a7:=hc 1 _ rfl;have a2:=hc 2 _ rfl;simp only[arQ,bI]at a0 a7 a2;subst hA;cases r with
    |nil=>have:=hr.out;rw[j]at this;cases this
    |pl v r=>
     have aa:=hr.out;rw[j]at aa;obtain⟨ys,e,a6⟩:=aa;obtain⟨rfl,rfl⟩:=List.cons.inj e;simp only[plC]at a0 a7 a2;have V:=(Own.nil wr).alloc 341 #[v,zI,nS] _ rfl;have bn:=V.b0.cell;go_wp2;have xP:=NV T';have cf:=C.inn _ _ _ aD;have aR: ¬T' wr.heap.size:=λc=>absurd (cf _ c) (Nat.lt_irrefl _);have au: ¬T' g:=λc=>(M.sub g c).elim a1 λc=>absurd hg.lt (Nat.not_lt.2 c);have am:=C.below _ _ _ _ aD V.below;have aM:=V.b0;have bu:=a4.below V.below a4.lt;clear bn;cases H:val v s' with
     |error er=>
      have cd:=C.enter;(have av:v=7->0<BN s':=λe=>by have:=ac.out.2.2;simp only[Pt.need,if_pos e]at this;omega);have al:=λW (h:St s' T' W)=>C.call v s' T' W h av;clear av;rw[H]at al;simp only at al;(have aw:mV val p 0 s=.error er:=by rw[ad.out,mV,H]);have O:=ah aw;clear aw ad hr H;apply gu (CJ T') xP.drew xP.trans (Ag 6 (CJ T')) (λ_ _ _ h=>h.g xP) (DK xP) (Wv 6 (λW=>St s' T' W)) (λ_ _=>(λ(W W':World) (h:St s' T' W) (hb:W W')=>C.below _ _ _ _ h hb) _ _ (am) (aq3 gY 1)) (λi aE W W' bb hp ht e=>(λ(W W':World) (h:St s' T' W) (hb:W W')=>C.below _ _ _ _ h hb) _ _ (hp e) (ht.1 (λej=>bb (e.trans ej.symm))));(case lX=>intro u;simp only[bV,aq9,aP,ay,aA,aB,aT,aJ];with_reducible rfl);(case hm=>kernel_rfl);(case hB=>kernel_rfl);(case hA=>kernel_rfl);case hap=>kernel_rfl
      repeat(first
         |(refine fM.one ((λ(_ : Value) (_ : World)=> False)) ?_ ?_
           ·
             (intro u w' hk Y j
              replace Y:=Y rfl
              simp[fO,aC,gI,Is]at j
              refine fC ?_ ?_
              ·
                first
                |rfl
              intro K hK
              go_wp2_with ((refine(al _ Y).mono ?_);rintro e w3⟨J,Z,rfl,ar⟩);exact⟨rfl,J,M.trans (Ext.after (CJ.trans' (Ext.r (Ext.of_below V.below)) hk) Z),by rw[O.out];exact⟨rfl,ar⟩⟩))
         |(apply fM.is
           ·
             (intro u w' hk Y j
              clear Y
              simp[fO,aC,gI,Is]at j
              refine fC ?_ ?_
              ·
                first
                |rfl
              intro K hK
              have bo:=(aM.ext' hk aR).cell;have Tc:=(bu.ext' hk au).cell
              go_wp2_with (fail)
              try simp only[j]at hK
              refine hK _ _ ?_ rfl
              first |exact yS (by decide))))
      refine fM.last (JK ?_) ?_;(·simp only[gQ];(repeat(refine⟨?_,?_⟩;·first|exact DL _|exact yT (λ_ _ _ h _=>h)));exact trivial);intro u w2 cg _ j;simp only[gQ]at j;exact(j 6 _ rfl).elim
     |ok ns=>
      obtain⟨nv,d⟩:=ns;have cd:=C.enter;(have av:v=7->0<BN s':=λe=>by have:=ac.out.2.2;simp only[Pt.need,if_pos e]at this;omega);have al:=λW (h:St s' T' W)=>C.call v s' T' W h av;clear av;rw[H]at al;simp only at al;apply gu (CJ T') xP.drew xP.trans (Ag 6 (CJ T')) (λ_ _ _ h=>h.g xP) (DK xP) (Wv 6 (λW=>St s' T' W)) (λ_ _=>(λ(W W':World) (h:St s' T' W) (hb:W W')=>C.below _ _ _ _ h hb) _ _ (am) (aq3 gY 1)) (λi aE W W' bb hp ht e=>(λ(W W':World) (h:St s' T' W) (hb:W W')=>C.below _ _ _ _ h hb) _ _ (hp e) (ht.1 (λej=>bb (e.trans ej.symm))));(case lX=>intro u;simp only[bV,aq9,aP,ay,aA,aB,aT,aJ];with_reducible rfl);(case hm=>kernel_rfl);(case hB=>kernel_rfl);(case hA=>kernel_rfl);case hap=>kernel_rfl
      repeat(first
         |(refine fM.one (ajc St T' wr nv d) ?_ ?_
           ·
             (intro u w' hk Y j
              replace Y:=Y rfl
              simp[fO,aC,gI,Is]at j
              refine fC ?_ ?_
              ·
                first
                |rfl
              intro K hK
              go_wp2_with ((refine(al _ Y).mono ?_);rintro e w3⟨J,Z,rfl,ak⟩);(try simp only[j]at hK);exact hK _ _ (JJ Z.r) ⟨rfl,J,Ext.after (CJ.trans' (Ext.r (Ext.of_below V.below)) hk) Z,ak⟩))
         |(apply fM.is
           ·
             (intro u w' hk Y j
              clear Y
              simp[fO,aC,gI,Is]at j
              refine fC ?_ ?_
              ·
                first
                |rfl
              intro K hK
              have bo:=(aM.ext' hk aR).cell;have Tc:=(bu.ext' hk au).cell
              go_wp2_with (fail)
              try simp only[j]at hK
              refine hK _ _ ?_ rfl
              first |exact yS (by decide))))
      refine fM.last (JK ?_) ?_;(·simp only[gQ];(repeat(refine⟨?_,?_⟩;·first|exact DL _|exact yT (λ_ _ _ h hb=>ZC C h hb)));exact trivial);intro u w2 cg _ j;simp only[gQ]at j;refine⟨rfl,?_⟩;intro K hK;have h6:=j 6 _ rfl;clear j;obtain⟨e6,J,Z,ak⟩:=h6;replace e6:u 6=.int .i64 nv:=e6;(have aw:mV val (.pl v r) last s'=mV val r nv d:=by rw[mV,H]);have O:=ah (ad.out.trans aw);have HR:=ah a6;have bX:Hid (nv<=4294967295):=ah (C.bound _ _ _ _ H);have ap:Hid (r.size<ag+1/\r.wf/\r.need<=BN d):=ah ⟨Nat.lt_of_succ_lt ac.out.1,ac.out.2.1,by have:=ac.out.2.2;have:=C.keep _ _ _ _ H;simp only[Pt.need]at *;omega⟩;clear aw a6 ad hr H j;go_wp2_with fail;go_roundw;(case rel=>exact⟨k+1,nv,d,J,r,ap,bX,by go_num,by omega,(by first |exact e6),ak,M.trans Z,HR,O⟩);case measure=>simp[intOf] <;> omega
    |grp q l r=>
     have aa:=hr.out;rw[j]at aa;obtain⟨Al,nl,cl,ys,e,⟨zs,hz,bR,bi⟩,a6⟩:=aa;obtain⟨rfl,rfl⟩:=List.cons.inj e;simp only at a0 a7 a2;have V:=(Own.nil wr).alloc 341 #[zI,q,.slice Al nl cl] _ rfl;have bn:=V.b0.cell;(have bw:l.len=nl:=by rw[<-bi.len,bR]);have au: ¬T' g:=λc=>(M.sub g c).elim a1 λc=>absurd hg.lt (Nat.not_lt.2 c);have aR: ¬T' wr.heap.size:=λc=>absurd (C.inn _ _ _ aD _ c) (Nat.lt_irrefl _);have aM:=V.b0;(have bx:l.size<ag:=by have:=ac.out.1;simp only[Pt.size]at this;omega);have bL:=ac.out.2.1;simp only[Pt.wf]at bL;obtain⟨hq,ch,bc,bd,bA⟩:=bL;have ap: ∀d,BN s'<=BN d->Hid (r.size<ag+1/\r.wf/\r.need<=BN d):=λd h=>ah ⟨by have:=ac.out.1;simp only[Pt.size]at this;omega,bA,by have:=ac.out.2.2;simp only[Pt.need]at this;omega⟩;(have ba: ∀d s3,mV val l 0 d=.ok s3->BN d<=BN s3:=λd s3 h=>by have:=EP C.keep l 0 d s3 bd h;rwa [bc,bI]at this);have ae:=λ(W:World) (J:Nat->Prop) (d:σ) (hS:St d J W) (hE:Ext T' wr J W)=>ih l bx bd Al cl nl bw d J W hS (by rw[bc];exact aV _) ⟨zs,hz,bi⟩ (aG ax (M.trans hE).size) (λk h1 h2=>⟨((M.trans hE).same k (aU h2 ax) (aL.out k h1 h2).2).trans (aL.out k h1 h2).1,λc=>((M.trans hE).sub k c).elim (aL.out k h1 h2).2 λc=>absurd (aU h2 ax) (Nat.not_lt.2 c)⟩) (by omega) (a4.ext hE au) (λc=>(hE.sub g c).elim au λc=>absurd a4.lt (Nat.not_lt.2 c));have HR:=ah a6;have Q:=ad.out;rw[wL]at Q;have am:=C.below _ _ _ _ aD V.below;have ai:Ext T' wr T' (wr.alloc (.cells #[zI,q,.slice Al nl cl] 341)):=Ext.of_below V.below;(have f0:(q==0)=false:=by rcases hq with rfl |rfl |rfl <;> rfl);clear hr hz bR bi bw bx bd bc bA ch ad;by_cases q1:q=1
     ·(have f1:(q==1)=true:=by simpa using q1);(have ho:qC q last=last.toNat:=by unfold qC;rw[if_pos q1]);rw[ho]at Q;have ZF:=ah Q;obtain⟨U,hM⟩:=fD last.toNat;rw[<-hM]at ZF;clear Q ho q1 hq;go_wp2_with fail;go_loopw [29] (λaE bS=> ∃(i:Nat) (d:σ) (J:Nat->Prop),aE=.int .i64 i/\i<=U/\St d J bS/\Ext T' (wr.alloc (.cells #[zI,q,.slice Al nl cl] 341)) J bS/\Hid (jg (mV val l 0) U s'=jg (mV val l 0) (U-i) d/\BN s'<=BN d)) (λaE _=>U-(intOf aE).toNat);(case atStart=>exact⟨0,s',T',rfl,aV _,am,Ext.refl _ _,ah ⟨rfl,aW _⟩⟩);case round=>
       obtain⟨i,d,J,rfl,hi,bB,aq,af⟩:=hrel;have bm:=a5.out;by_cases cm:i<U
       ·(have cc:decide ((i:Int)<last)=true:=by simp;omega);have bo:=(aM.ext aq aR).cell;have N:=ae _ J d bB (ai.trans aq);unfold yU at N
        have an:jg (mV val l 0) (U-i) d=match mV val l 0 d with
          | .error e=> .error e
          | .ok s3=>jg (mV val l 0) (U-(i+1)) s3:=by
          rw[show U-i=(U-(i+1))+1 by omega,jg]
          rfl
        cases H:mV val l 0 d with|error er=>rw[H]at N an;have O:Hid (mV val p 0 s=.error er):=ah (by rw[ZF.out,af.out.1,an]);simp only at N;clear an H af ae bm hM;go_wp2_with((with_reducible refine N.mono ?_);rintro e w3⟨T3,ar,rfl,a9⟩);exact⟨rfl,T3,((M.trans ai).trans aq).trans ar,by rw[O.out];exact⟨rfl,a9⟩⟩|ok s3=>rw[H]at N an;have ca:Hid (jg (mV val l 0) U s'=jg (mV val l 0) (U-(i+1)) s3/\BN s'<=BN s3):=ah ⟨af.out.1.trans an,aG af.out.2 (ba _ _ H)⟩;simp only at N;clear an H af ae;go_wp2_with((with_reducible refine N.mono ?_);rintro e w3⟨T3,ar,rfl,a9⟩);go_roundw;(case rel=>exact⟨i+1,s3,T3,by go_num,by omega,a9,aq.trans ar,ca⟩);case measure=>simp[intOf] <;> omega
       ·(have cc:decide ((i:Int)<last)=false:=by simp;omega);have bh:=af.out.1;have a8:=ap d af.out.2;rw[show U-i=0 by omega,jg]at bh;have O:Hid (mV val p 0 s=mV val r last d):=ah (by rw[ZF.out,bh]);clear bh af ae bm hM cm;go_wp2_with fail;go_roundw;(case rel=>exact⟨k+1,last,d,J,r,a8,a5,by go_num,by omega,rfl,bB,(M.trans ai).trans aq,HR,O⟩);case measure=>simp[intOf] <;> omega
     (focus((have f1:(q==1)=false:=by simpa using q1);by_cases az:last=1\/q=3/\last=2;(focus((have ho:qC q last=1:=by unfold qC;rw[if_neg q1,if_pos az]);rw[ho]at Q;have N:=ae _ T' s' am ai;unfold yU at N;rcases H:mV val l 0 s' with er |d;(·rw[H]at N;have O:Hid (mV val p 0 s=.error er):=ah (by rw[Q];simp[jg,H]);simp only at N;clear Q ho ae H;by_cases l1:last=1;(focus(have f2:(last==1)=true:=by simpa using l1));rotate_left;(focus((have f2:(last==1)=false:=by simpa using l1);(have f3:(q==3)=true:=by simp;omega);have f4:(last==2)=true:=by simp;omega));all_goals(clear az q1 hq l1;go_wp2_with((with_reducible refine N.mono ?_);rintro e w3⟨J,Z,rfl,ak⟩);exact⟨rfl,J,(M.trans ai).trans Z,by rw[O.out];exact⟨rfl,ak⟩⟩));focus(rw[H]at N;have O:Hid (mV val p 0 s=mV val r last d):=ah (by rw[Q];simp[jg,H]);have a8:=ap d (ba _ _ H);simp only at N;clear Q ho ae H;by_cases l1:last=1;(focus(have f2:(last==1)=true:=by simpa using l1));rotate_left;focus((have f2:(last==1)=false:=by simpa using l1);(have f3:(q==3)=true:=by simp;omega);have f4:(last==2)=true:=by simp;omega))));rotate_left 2;·(have ho:qC q last=0:=by unfold qC;rw[if_neg q1,if_neg az]);rw[ho]at Q;have O:Hid (mV val p 0 s=mV val r last s'):=ah Q;(have f2:(last==1)=false:=by simp;omega);clear Q ho ae;by_cases q3:q=3;(focus((have f3:(q==3)=true:=by simpa using q3);have f4:(last==2)=false:=by simp;omega));rotate_left;(focus(have f3:(q==3)=false:=by simpa using q3));all_goals(clear az q1 q3 hq;go_wp2_with fail;go_roundw;(case rel=>exact⟨k+1,last,s',T',r,ap s' ig,a5,by go_num,by omega,rfl,am,M.trans ai,HR,O⟩);case measure=>simp[intOf] <;> omega)));all_goals(clear az q1 hq l1;go_wp2_with((with_reducible refine N.mono ?_);rintro e w3⟨J,Z,rfl,ak⟩);go_roundw;(case rel=>exact⟨k+1,last,d,J,r,a8,a5,by go_num,by omega,rfl,ak,(M.trans ai).trans Z,HR,O⟩);case measure=>simp[intOf] <;> omega)
   ·(obtain rfl:k=n:=by omega);have aa:=hr.out;rw[dJ (by rw[bj.out];exact aW _)]at aa;obtain rfl:r=.nil:=by
     cases r with
     |nil=>rfl
     |pl v r=>obtain⟨ys,e,_⟩:=aa;cases e
     |grp q l r=>obtain⟨_,_,_,ys,e,_⟩:=aa;cases e
    have bq:mV val p 0 s=.ok s':=ad.out.trans rfl;have HE:=ah bq;clear bq aa hr ad;go_wp2_with fail;go_end0;exact⟨T',M,by rw[HE.out];exact⟨rfl,aD⟩⟩
theorem PL{P:Program}{F:(Nat->Value)->Act}{d:Exit->Act->World->Prop}{o:Oper}{u:Nat->Value}{T:World->World->Prop}(j:aF o (yielded ops (F u).tmps)=false)(h:Φ undef w):jP P ops F T o Φ d u w:=by unfold jP;grind
def CW (R:Option Nat) (s i:Nat) (w w':World):Prop:=(i≠s->w w')/\w.grownBy w' R
theorem vT(R:Option Nat)(s i:Nat)(w:World):CW R s i w w:=⟨λ_=>aH _ _,World.grownBy.refl w R⟩
theorem arj(h:w w')(R:Option Nat):w.grownBy w' R:=⟨h.os,h.tape,h.output,h.size,λk d _=>h.block k d⟩
theorem uw(h:w w'):CW R s i w w':=⟨λ_=>h,arj h R⟩
theorem lN(h:a.grownBy b R)(k:b.grownBy c R):a.grownBy c R:=⟨k.os.trans h.os,k.tape.trans h.tape,k.output.trans h.output,aG h.size k.size,λi hi hn=>(k.block i (aU hi h.size) hn).trans (h.block i hi hn)⟩
def Gm (t:TypeId) (R:Option Nat) (cs:Array Value):Value->World->Prop:=fun v w=> ∃bv,v=.slice (some ⟨bv,0,none⟩) 1 1/\fK w bv t cs/\R≠some bv
theorem Gm.grow{t:TypeId}(h:Gm t R cs v w)(d:w.grownBy w' R):Gm t R cs v w':=by obtain⟨bv,e,hB,hn⟩:=h;exact⟨bv,e,(d.block bv hB.lt (λe=>hn e.symm)).trans hB,hn⟩
def PN {α:Type} (E:arb α) (t:TypeId) (B n:Nat) (xs:List α):Value->World->Prop:=fun v w=> ∃A c,v=.slice A n c/\aq1 E t w B A c xs
theorem PN.grow{α:Type}{E:arb α}{t:TypeId}{n:Nat}{xs:List α}(h:PN E t B n xs v w)(j:w w'):PN E t B n xs v w':=by obtain⟨A,c,e,d⟩:=h;exact⟨A,c,e,d.below j⟩
def StQ (R:Option Nat) (s:Nat):Nat->List (Value->World->Prop)->Prop
 |_,[]=>True
 |n,Φ::l=>(∀i,i≠n-> ∀v w w',Φ v w->CW R s i w w'->Φ v w')/\StQ R s (n+1) l
theorem acJ: ∀ {l:List (Value->World->Prop)} {n d:Nat} {Φ:Value->World->Prop},StQ R s n l->l[d]? =some Φ-> ∀i,i≠n+d-> ∀v w w',Φ v w->CW R s i w w'->Φ v w'
 | [],_,_,_,_,hj=>by grind
 |Ψ::l,n,0,Φ,h,hj=>by simp only[eP,aO]at hj;subst hj;intro i hi;exact h.1 i hi
 |Ψ::l,n,d+1,Φ,h,hj=>by rw[fB]at hj;intro i hi;exact acJ h.2 hj i (by omega)
theorem Ai{l:List (Value->World->Prop)}(h:StQ R s 0 l): ∀i d (Φ:Value->World->Prop),i≠d->i<l.length->l[d]? =some Φ-> ∀v w w',Φ v w->CW R s i w w'->Φ v w':=λi d _ M _ j v w w' J H=>acJ h j i (by omega) v w w' J H
section
def qQ (A:Option Addr) (i c:Nat):Option Addr:=if c=i then A else A.map (·.add i)
theorem BO(A:Option Addr)(c:Nat):qQ A 0 c=A:=by
 unfold qQ;split;·rfl
 ·cases A with|none=>rfl|some a=>rfl
theorem aq2.qQ{w:World}{A:Option Addr}{c:Nat}{bs:List UInt8}(h:aq2 w A c bs)(i n:Nat)(hn:i+n<=bs.length):aq2 w (qQ A i c) (c-i) ((bs.drop i).take n):=by
 have H:((bs.drop i).take n).length=n:=by grind
 have Q:=h.cap;refine⟨λJ=>?_,by omega,aG (Nat.sub_le _ _) h.max⟩;rw[aq8,H]at J;have M:0<(aq6 bs).length:=by rw[aq8];omega
 obtain⟨b,off,rfl,O,hc⟩:=h.row M;have e:Proofs.YthnmgjngniciaaaGreatDoor.qQ (some ⟨b,off,none⟩) i c=some ⟨b,off+i,none⟩:=by unfold Proofs.YthnmgjngniciaaaGreatDoor.qQ;rw[if_neg (by omega)];simp[Addr.add]
 refine⟨b,off+i,e,O,λj u d=>?_⟩;have N:j<n:=by
  rcases eu j n with h |h;·exact h
  ·rw[dQ (by rw[aq8,H];exact h)]at d;cases d
 have:=hc (i+j) u (by rw[<-d];simp only[aq6,bW];rw[dG N,List.getElem?_drop]);rwa [<-Nat.add_assoc]at this
theorem aq2.cut{w:World}{b off c:Nat}{bs:List UInt8}(h:aq2 w (some ⟨b,off,none⟩) c bs)(i n:Nat)(hn:i+n<=bs.length)(d:0<n):aq2 w (some ⟨b,off+i,none⟩) (c-i) ((bs.drop i).take n):=by
 have:=h.qQ i n hn;have j:=h.cap;unfold Proofs.YthnmgjngniciaaaGreatDoor.qQ at this;rw[if_neg (by omega)]at this;by_cases hi:i=0;·subst hi;assumption
 ·simpa[Addr.add,hi] using this
theorem aq2.aif{w:World}{A:Option Addr}{c:Nat}{bs:List UInt8}(h:aq2 w A c bs)(n:Nat)(hn:n<=bs.length):aq2 w A c (bs.take n):=by have:=h.qQ 0 n (by omega);rwa [BO,List.drop_zero,Nat.sub_zero]at this
theorem aq2.cutFrom{w:World}{A:Option Addr}{c:Nat}{bs:List UInt8}(h:aq2 w A c bs)(i:Nat)(hi:i<=bs.length):aq2 w (Proofs.YthnmgjngniciaaaGreatDoor.qQ A i c) (c-i) (bs.drop i):=by have:=h.qQ i (bs.length-i) (by omega);rwa [aY (by simp)]at this
section
variable (w:World) (a:Option Addr) (len cap:Nat)
theorem aii:aj.underlying 45=some (.slice (aj.elem 45)):=by kernel_rfl
theorem YA:(sizeOf (aj.elem 45)).run aj w=.ok 1 w:=by
 have h:(aj.info? (aj.elem 45)).map (·.size)=some 1:=by kernel_rfl
 cases j:aj.info? (aj.elem 45) with
 |none=>grind
 |some H=>
  have d:H.size=1:=by grind
  simp[sizeOf,typeInfo,j,d]
theorem tJ(d:IntKind)(l:Int)(j:0<=l)(H:l<=len):(Instr.slice 45 (.slice a len cap) (some (.int d l)) none none).run aj w=.ok (.slice (qQ a l.toNat cap) (len-l.toNat) (cap-l.toNat)) w:=by rw[run_slice_l w 45 a len cap aii d l j H,YA];simp[Result.andThen,sliced,qQ]
theorem CX(d:IntKind)(h:Int)(j:0<=h)(H:h<=cap):(Instr.slice 45 (.slice a len cap) none (some (.int d h)) none).run aj w=.ok (.slice a h.toNat cap) w:=by rw[run_slice_h w 45 a len cap aii d h j H,YA];have:=BO a cap;unfold qQ at this;simp[Result.andThen,sliced,this]
end
end
end Go.Proofs.YthnmgjngniciaaaGreatDoor
