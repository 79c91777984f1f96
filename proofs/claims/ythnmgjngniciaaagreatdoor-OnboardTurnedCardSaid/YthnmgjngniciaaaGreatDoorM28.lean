/- Parts. -/
import Derived.Test.YthnmgjngniciaaaGreatDoorM27
import Derived.Test.YthnmgjngniciaaaGreatDoorM22
import Derived.Test.YthnmgjngniciaaaGreatDoorM07
import Derived.Test.YthnmgjngniciaaaGreatDoorM11
import Derived.Test.YthnmgjngniciaaaGreatDoorM17
set_option linter.all false
set_option maxHeartbeats 16000000
set_option maxRecDepth 8000
open Array renaming getElem?_setIfInBounds_ne→dR
open List renaming getD_eq_getElem?_getD→bH,getElem?_eq_getElem→aI,getElem?_eq_some_iff→aX,getElem?_map→bW,getElem?_take_of_lt→dG,length_append→bC,length_eq_zero_iff→dh,length_map→eU,length_nil→dU,map→bV,mem_of_getElem?→bP,nil_append→aZ,setIfInBounds_toArray→ay,set_cons_succ→aB,set_cons_zero→aA
open Nat renaming add_zero→bI,le_refl→aW,lt_of_lt_of_le→aU,reduceAdd→aT,zero_add→aJ,zero_le→aV
open Option renaming getD_some→eG
open Option.some renaming injEq→aO
namespace Go.Proofs.YthnmgjngniciaaaGreatDoor
open Go.RowKit Go.Shelf Tryz
open Act renaming put→aP
open Addr.mk renaming injEq→cZ
open Below renaming heap_setCell→aN,refl→aH
open Go.Lib renaming hid→ah
open Region renaming binds→aC,wanted→aF
open Tryz renaming prog→aj,underlying3→bG,underlying4→dL,underlying42→dA
variable{rev:Bool}{gap ref:Int}{ss:List Sc}{m:Ma}{v:DF}{B cs gm:Nat}{As:Option Addr}{W W' w w4:World}
def UF (t:Tp) (ref:Int) (rev:Bool) (ss:List Sc) (gap:Int):Except Int (List St)->Except Int Ma
 | .error er=> .error er
 | .ok path=>if rX t ⟨ref,rev,path,ss,gap⟩=true then .ok ⟨ref,rev,path,ss,gap⟩ else .error 7
def Y1 (t:Tp) (ref:Int) (rev:Bool) (L:Except Int (List St)):Except Int (List Sc × Int)->Except Int Ma
 | .error er=> .error er
 | .ok (ss,gap)=>UF t ref rev ss gap L
def Oy (t:Tp) (e:Int) (rev:Bool) (ps:List Pk) (iq:Int):Except Int (List St):=if 0<=iq then FD t [⟨e,rev⟩] (ps.getD iq.toNat ⟨0,[]⟩).v else .ok [⟨e,rev⟩]
def ql (t:Tp) (ref:Int) (rev:Bool) (ps:List Pk):Except Int Ma:=if jr t≠0 then .error 1 else match oz t ref,ps with
 |none,_=> .error 4
 |some _,[]=> .error 50
 |some b,p::r=>if p.id≠15\/(p::r).any G9=true then .error 50 else Y1 t ref rev (Oy t b.edge rev (p::r) (sZ (fun q:Pk=>decide (q.id=5)) (p::r))) (qK rev p.v)
theorem Oz(u:Int): ∀(k:Nat) (l:List Int) (at_:Int) (ss:List Sc) (R:List Int × List Sc),wP u k l at_ ss=.ok R->R.2.length=ss.length+k
 |0,l,f,ss,R,h=>by rw[wP]at h;cases h;rfl
 |k+1,l,f,ss,R,h=>by
  rw[wP]at h;split at h;·cases h
  ·have:=Oz u k _ _ _ R h;simp only[bC,List.length_singleton]at this;omega
theorem QF{v:List Int}(h:qK rev v=.ok (ss,gap)):ss.length<=8:=by
 unfold qK at h;split at h;·cases h
 split at h;·cases h
 cases d:wP (v.tail.headD 0) (v.tail.tail.tail.tail.headD 0+1).toNat v.tail.tail.tail.tail.tail 0 [] with|error er=>grind|ok q=>have j:=Oz _ _ _ _ _ _ d;rw[d]at h;obtain⟨l,H⟩:=q;simp only[dU]at j h;unfold aae at h;grind
theorem He(t:Tp): ∀(k:Nat) (l:List Int) (j i:Int) (path d:List St),path.length<=24->qL t k l j i path=.ok d->d.length<=24
 |0,l,j,i,path,d,H,h=>by rw[qL]at h;cases h
 |k+1,l,j,i,path,d,H,h=>by
  rw[qL]at h;split at h;·split at h;(·cases h);·split at h;(·split at h;(·exact He t k _ _ _ _ _ H h);·split at h;(·cases h);·split at h;(·cases h);·rename_i J;refine He t k _ _ _ _ _ ?_ h;grind);grind
  grind
structure oV (w:World) (B:Nat) (m:Ma) (v:DF):Prop where
  path:aq1 gV 58 w B v.A1 v.c1 m.path
  fP:aq1 kW 60 w B v.A2 v.c2 m.fP
  e1:m.path.length=v.n1
  e2:m.fP.length=v.n2
  l1:v.n1<=100
  l2:v.n2<=100
theorem oV.is_(h:oV w B m v):EK w m v:=⟨h.path.rows,h.fP.rows,h.e1,h.e2,h.l1,h.l2,by have:=h.path.cap.1;rw[h.e1]at this;omega,by have:=h.fP.cap.1;rw[h.e2]at this;omega⟩
theorem oV.ji{D:Nat->Prop}{w':World}(h:oV w B m v)(d:jV D w w')(H: ∀k,D k->k<B\/w.heap.size<=k):oV w' B m v:={h with path:=h.path.ji d (λg e j=>by have:=h.path.gJ g e;grind),fP:=h.fP.ji d (λg e j=>by have:=h.fP.gJ g e;grind)}
theorem oV.base{d:Nat}(h:oV w B m v)(j:d<=B):oV w d m v:={h with path:=h.path.mono j,fP:=h.fP.mono j}
def aed (w:World) (R:Except Int Ma) (e:Ending) (w':World):Prop:=w w'/\match R with
 | .error er=>e=.returned (.tuple #[.agg gj,.int .i64 er])/\er≠0
 | .ok m=> ∃v,e=.returned (.tuple #[.agg (nO m v),.int .i64 0])/\oV w' w m v
theorem UG{α:Type}{q:α->Bool}{l:List α}(h:0<=sZ q l): ∃k x,sZ q l=((k:Nat):Int)/\l[k]? =some x:=by unfold sZ at*;cases j:l.findIdx? q with|none=>grind|some k=>obtain⟨d,_⟩:=List.findIdx?_eq_some_iff_getElem.1 j;exact⟨k,l[k],rfl,aI d⟩
def RdP (w4:World) (gm B:Nat) (ref:Int) (rev:Bool) (path:List St) (As:Option Addr) (cs:Nat) (ss:List Sc) (gap:Int) (W:World):Prop:=w4 W/\ ∃A c,fK W gm 42 #[.int .i64 ref,.bool rev,.slice A path.length c,.slice As ss.length cs,.int .i64 gap]/\aq1 gV 58 W B A c path/\aq1 kW 60 W B As cs ss
theorem RdP.below{path:List St}(h:RdP w4 gm B ref rev path As cs ss gap W)(d:W W'):RdP w4 gm B ref rev path As cs ss gap W':=by obtain⟨j,A,c,H,J,K⟩:=h;exact⟨j.trans (d.mono j.size),A,c,H.below d H.lt,J.below d,K.below d⟩
def RdW (w4:World) (gm B:Nat) (ref:Int) (rev:Bool) (L:Except Int (List St)) (As:Option Addr) (cs:Nat) (ss:List Sc) (gap:Int) (v:Value) (W:World):Prop:=match L with
 | .error er=>v=.int .i64 er/\er≠0/\w4 W
 | .ok path=>v=.int .i64 0/\RdP w4 gm B ref rev path As cs ss gap W
theorem RdW.grow{L:Except Int (List St)}{v:Value}(h:RdW w4 gm B ref rev L As cs ss gap v W)(d:W W'):RdW w4 gm B ref rev L As cs ss gap v W':=by cases L with|error er=>exact⟨h.1,h.2.1,h.2.2.trans (d.mono h.2.2.size)⟩|ok path=>exact⟨h.1,h.2.below d⟩
theorem MV{b:Nat}{t:TypeId}{N O Q U V:Value}(h:fK W b t #[N,O,Q,U,V])(d:w.heap.size<=b)(hB:w W)(j H J K M:Value):fK (((((W.setCell ⟨b,0,none⟩ j).setCell ⟨b,1,none⟩ H).setCell ⟨b,2,none⟩ J).setCell ⟨b,3,none⟩ K).setCell ⟨b,4,none⟩ M) b t #[j,H,J,K,M]/\w (((((W.setCell ⟨b,0,none⟩ j).setCell ⟨b,1,none⟩ H).setCell ⟨b,2,none⟩ J).setCell ⟨b,3,none⟩ K).setCell ⟨b,4,none⟩ M):=⟨((((h.iV 0 j).iV 1 H).iV 2 J).iV 3 K).iV 4 M,((((hB.setCell (p:=⟨b,0,none⟩) d _).setCell (p:=⟨b,1,none⟩) d _).setCell (p:=⟨b,2,none⟩) d _).setCell (p:=⟨b,3,none⟩) d _).setCell (p:=⟨b,4,none⟩) d _⟩
theorem aee{t:Tp}{m:jl}(h:jE w t m)(hT:Tab w)(ref:Int)(rev:Bool)(A:Option Addr)(c:Nat)(ps:List Pk)(xs:List WV)(hx:fE qJ w A xs)(B:Nat)(O:rH w B A xs ps)(cz:ps.length<=2000)(bw: ∀p∈ps,p.v.length<=8184)(cA: ∀p∈ps,∀x∈p.v,0<=x/\x<=4294967295):Calls aj 221 #[.agg m.cells,.int .i64 ref,.bool rev,.slice A ps.length c] w (aed w (ql t ref rev ps)):=by
 obtain⟨R,hR⟩:=fD (ql t ref rev ps);rw[<-hR];unfold ql at hR;have hO:Own w _ [_,_]:=Own.iY w 27 42 m.cells gj;have aq:=yK (h.below hO.below);have lF:=λW (hW:w W)=>Hw (h.below hW) ref;have cY:=hO.b0.cell;obtain⟨W1,cW⟩:=fD ((w.alloc (.cells m.cells 27)).alloc (.cells gj 42));obtain⟨n,hn⟩:=fD ps.length;rw[<-hn];have HN:=ah hn;have HR:=ah hR;clear hn hR;unfold jl.cells at*;by_cases Y:jr t=0;focus(
  have e0:(jr t != 0)=false:=by simpa using Y
  rcases N:oz t ref with _ |b;focus(rw[N]at lF;simp only[Option.getD_none,Option.isSome_none,blV]at lF;have U:Hid (R=.error 4):=ah (by rw[HR.out,if_neg (by simpa using Y),N]);clear Y N;go_enter func221,ntmps221;go_wp2_with(first|(go_at_call 36;(with_reducible refine aq.mono ?_);rintro e w2⟨rfl,aa⟩;have d:=hO.grow aa;have az:=d.b0.cell;have aM:=d.b1.cell;have a1:=d.b1.frozen)|(go_at_call 49;(with_reducible refine(lF _ d.below).mono ?_);rintro e w3⟨rfl,ac⟩;have H:=(d.grow ac).alloc 114 gC _ rfl;have aD:=H.b0.cell;have aR:=H.b1.cell;have a4:=H.b1.frozen)))
  rotate_left;focus(
   rw[N]at lF;simp only[eG,Option.isSome_some,blV]at lF;rcases ps with _ |⟨p,r⟩;(focus(have U:Hid (R=.error 50):=ah (by rw[HR.out,if_neg (by simpa using Y),N]);have cf:n=0:=HN.out;(have e1:((n:Int)==0)=true:=by rw[cf];rfl);clear Y N cf;go_enter func221,ntmps221;go_wp2_with(first|(go_at_call 36;(with_reducible refine aq.mono ?_);rintro e w2⟨rfl,aa⟩;have d:=hO.grow aa;have az:=d.b0.cell;have aM:=d.b1.cell;have a1:=d.b1.frozen)|(go_at_call 49;(with_reducible refine(lF _ d.below).mono ?_);rintro e w3⟨rfl,ac⟩;have H:=(d.grow ac).alloc 114 #[.int .i64 b.id,.int .i64 b.edge,.int .i64 b.at_] _ rfl;have aD:=H.b0.cell;have aR:=H.b1.cell;have a4:=H.b1.frozen))));rotate_left;focus(
    obtain⟨x,xr,rfl⟩: ∃x xr,xs=x::xr:=by
     cases xs with
     |nil=>cases O.1
     |cons x xr=>exact⟨x,xr,rfl⟩
    have bm:=O.2 0 x p rfl rfl;(have dr:0<n:=by have:=HN.out;simp at this;omega);(have e1:((n:Int)==0)=false:=by simp;omega);obtain⟨g,off,hA,cu,bi⟩:=hx.get (i:=0) (x:=x) rfl;(have k0: ∀W',w W'->W'.cell? ⟨g,off,none⟩=some (.int .i64 p.id):=λW' au=>by have M:=bi 0 _ rfl;simp only[qJ,Nat.zero_mul,bI,bm.id]at M;exact(au.cell (p:=⟨g,off,none⟩) cu).trans M);(have k1: ∀W',w W'->W'.cell? ⟨g,off+1,none⟩=some (.slice x.A x.n x.c):=λW' au=>by have M:=bi 1 _ rfl;simp only[qJ,Nat.zero_mul,bI]at M;exact(au.cell (p:=⟨g,off+1,none⟩) cu).trans M);subst hA;(have bA:(x::xr).length=n:=by rw[HN.out];exact O.1);have hw:=λW (hW:w W)=>agQ 252 UD ((p::r).map G9) (some ⟨g,off,none⟩) n c (x::xr) W (λi y b' hy an W' ci=>by rw[bW]at an;obtain⟨q,Z,rfl⟩:=Option.map_eq_some_iff.1 an;have hp:=O.2 i y q hy Z;have cm:=hW.trans (ci.mono hW.size);exact(agS q y W' (hT.below cm) hp.id (hp.row.below cm) hp.n.symm (by have:=bw q (bP Z);have:=hp.n;omega) hp.c)) (hx.below hW) bA (by rw[eU];exact HN.out.symm) (by have:=HN.out;omega);obtain⟨wb,bx⟩:=fD (((p::r).map G9).any id);rw[<-bx]at hw;have cH:Hid (wb=(p::r).any G9):=ah (by rw[bx,List.any_map];rfl);obtain⟨ib,bk⟩:=fD (p.id != 15);have e2:(p.id != 15)=ib:=bk.symm;have cD:Hid (ib=true<->p.id≠15):=ah (by rw[bk,bne_iff_ne]);have ak:Hid (R=if ib=true\/wb=true then .error 50 else Y1 t ref rev (Oy t b.edge rev (p::r) (sZ (λq:Pk=>decide (q.id=5)) (p::r))) (qK rev p.v)):=ah (by rw[HR.out,if_neg (by simpa using Y),N];simp only[cD.out,cH.out]);have HX:=ah hx;have HK:=ah O;have cG:=ah bw;have bR:=ah cA;have aw:=ah bm;have bS:=ah bA;have cE:=ah cz;clear Y N bx bk hx O bw cA bm bi bA cz HR;go_enter func221,ntmps221;(go_upto_region 7 with(first|(go_at_call 36;(with_reducible refine aq.mono ?_);rintro e w2⟨rfl,aa⟩;have d:=hO.grow aa;have az:=d.b0.cell;have aM:=d.b1.cell;have a1:=d.b1.frozen)|(go_at_call 49;(with_reducible refine(lF _ d.below).mono ?_);rintro e w3⟨rfl,ac⟩;have H:=(d.grow ac).alloc 114 #[.int .i64 b.id,.int .i64 b.edge,.int .i64 b.at_] _ rfl)));have aD:=H.b0.cell;have aR:=H.b1.cell;have a4:=H.b1.frozen;have m0:=k0 _ H.below;have av:=hw _ H.below;obtain⟨W3,cn⟩:=fD (w3.alloc (.cells #[.int .i64 b.id,.int .i64 b.edge,.int .i64 b.at_] 114));rw[<-cn]at H aD aR a4 m0 av ⊢;obtain⟨b10,kQ⟩:=fD w3.heap.size;rw[<-kQ]at H ⊢;clear cn kQ aa ac d az aM a1 aq lF hw cY cW hO;have dg: ∀W4,W3 W4->R=.error 50-> ∀(tmps:Array Value),tmps.getD 8 undef=.pointer (some ⟨w.heap.size+1,0,none⟩)->tmps.getD 9 undef=.int .i64 50->True:=λ_ _ _ _ _ _=>trivial;clear dg;rcases ib with _ |_
    ·rcases wb with _ |_;focus(
      (go_upto_region 10 with(go_at_call 253;(with_reducible refine av.mono ?_);rintro e w4⟨rfl,bf⟩;have j:=H.grow bf;have cK:=j.b2.cell));have cM:=j.b0.lt;have dv:=j.b2.lt;have cN:=j.b1.lt;have ca: ∀x∈p.v,0<=x/\x<=4294967295:=bR.out p (by simp);have dd:p.v.length<=8184:=cG.out p (by simp);obtain⟨gm,a5⟩:=fD (w4.heap.size+1);obtain⟨b4,cP⟩:=fD w4.heap.size;have ap:w4 ((w4.alloc (.cells #[.int .i64 b.edge,.bool rev] 58)).alloc (.cells #[.int .i64 ref,.bool rev,.slice (some ⟨w4,0,none⟩) 1 1,.slice none 0 0,.int .i64 0] 42)):=jm.alloc (by simp) _;have ct:=(fK.new w4 58 #[.int .i64 b.edge,.bool rev]).below (gY.alloc ig (.cells #[.int .i64 ref,.bool rev,.slice (some ⟨w4,0,none⟩) 1 1,.slice none 0 0,.int .i64 0] 42)) (by simp);have V:=fK.new (w4.alloc (.cells #[.int .i64 b.edge,.bool rev] 58)) 42 #[.int .i64 ref,.bool rev,.slice (some ⟨w4,0,none⟩) 1 1,.slice none 0 0,.int .i64 0];have bo:=aq1.adh (E:=gV) (base:=w4.heap.size) (xs:= [(⟨b.edge,rev⟩:St)]) ct ig (show 1<=maxLen by decide) rfl;rw[show(w4.alloc (.cells #[.int .i64 b.edge,.bool rev] 58)).heap.size=gm by rw[a5];simp]at V;rw[<-a5];obtain⟨W5,Xg⟩:=fD ((w4.alloc (.cells #[.int .i64 b.edge,.bool rev] 58)).alloc (.cells #[.int .i64 ref,.bool rev,.slice (some ⟨w4,0,none⟩) 1 1,.slice none 0 0,.int .i64 0] 42));rw[<-Xg]at ap V bo ⊢;have cB:w W5:=j.below.trans (ap.mono j.below.size);have bu:=ap.size;have da:=k1 W5 cB;have CZ:fE aq7 W5 x.A p.v:=aw.out.row.below cB;have ba:x.n=p.v.length:=aw.out.n;have yL:=Xk (B:=w4.heap.size) ref rev (.slice (some ⟨w4,0,none⟩) 1 1) p.v x.A x.c V CZ (λhl a e=>aU (Qb aw.out.row hl a e) j.below.size) (by omega) (by have:=aw.out.c;rw[ba]at this;exact this) ca;rw[<-ba]at yL;obtain⟨S,hS⟩:=fD (qK rev p.v);rw[<-hS]at yL;have HS:=ah hS;have ar:=λW (hW:w W)=>aec 256 UE ((p::r).map (λq=>decide (q.id=5))) (some ⟨g,off,none⟩) n c (x::xr) W (λi y b' hy an W' ci=>by rw[bW]at an;obtain⟨q,Z,rfl⟩:=Option.map_eq_some_iff.1 an;have hp:=HK.out.2 i y q hy Z;rw[<-hp.id];exact agR y W') (HX.out.below hW) bS.out (by rw[eU];exact HN.out.symm) (by have:=HN.out;have:=cE.out;omega);rw[aeb]at ar;obtain⟨iq,a6⟩:=fD (sZ (λq:Pk=>decide (q.id=5)) (p::r));rw[<-a6]at ar;have bE:=ah a6;obtain⟨L,hL⟩:=fD (Oy t b.edge rev (p::r) iq);have HL:=ah hL;have ax:Hid (R=Y1 t ref rev L S):=ah (by rw[ak.out,if_neg (by simp),hS,hL,a6]);have di:=ah a5;(have cQ:w4.heap.size<gm:=by omega);clear a6 hS hL a5 cP Xg ct ba CZ ca dd aD aR a4 cK av m0;rcases S with er |sg;(·obtain⟨c7,du⟩:Hid (R=.error er)/\True:=⟨ah ax.out,trivial⟩;clear ax ak;unfold GI at yL;simp only at yL;go_wp2_with(first|(go_at_call 254;(with_reducible refine yL.mono ?_);rintro e w6⟨Gz,rfl,ae⟩;have aL:=Gz.below (B:=w4.heap.size) bu (λk O=>by omega);have vW:=j.grow (ap.trans (aL.mono ig));have e7:(er==0)=false:=by {rw[beq_eq_false_iff_ne];exact ae};have e8:(er != 0)=true:=by {rw[bne_iff_ne];exact ae})|(go_at_call 255;(with_reducible refine(ar _ vW.below).mono ?_);rintro e w7⟨rfl,ad⟩;have uy:=vW.grow ad;have fU:=uy.b1.frozen;have fJ:=uy.b1.cell));have K:=MV uy.b1 (Nat.le_succ _) uy.below (.int .i64 0) (.bool false) (.slice none 0 0) (.slice none 0 0) (.int .i64 0);refine bodyPost_ret (gU results221 _ _ _ _ _ _ rfl rfl K.1 dA rfl (by kernel_rfl)) rfl ?_;rw[c7.out];exact⟨K.2,rfl,ae⟩);focus(
       obtain⟨ss,gap⟩:=sg;unfold GI at yL;simp only at yL;have cF:Hid (ss.length<=8):=ah (QF HS.out.symm);have bN:Hid (R=UF t ref rev ss gap L):=ah ax.out;clear ax ak;obtain⟨pb,bq⟩:=fD (decide (0<=iq));have e9:decide (0<=iq)=pb:=bq.symm;have bL:Hid (pb=true<->0<=iq):=ah (by rw[bq,decide_eq_true_iff]);clear bq
       go_upto_if 65 with (first
         |(go_at_call 254;(with_reducible refine yL.mono ?_);rintro e w6⟨Gz,rfl,As,cs,bb,cc⟩;have aL:=Gz.below (B:=w4.heap.size) bu (λk O=>by omega);have aE:=ap.trans (aL.mono ig);have vW:=j.grow aE;have cd:=bo.ji Gz (λx e=>by simp at e;omega))
         |(go_at_call 255;(with_reducible refine(ar _ vW.below).mono ?_);rintro e w7⟨rfl,ad⟩;have uy:=vW.grow ad;have am:RdP w4 gm w4 ref rev [⟨b.edge,rev⟩] As cs ss gap w7:=⟨aE.trans (ad.mono aE.size),_,1,bb.below ad bb.lt,cd.below ad,(cc.mono bu).below ad⟩))
       have dk:w.heap.size<w4.heap.size:=cM;have dx:w4.heap.size<=w7.heap.size:=am.1.size;clear Gz bb cc aL aE vW cd ad yL ar da V bo;go_cut [14] from 16 (λv W=>RdW w4 gm w4 ref rev L As cs ss gap v W);case first=>
        cases pb with
        |false=>(have cU:L=.ok [⟨b.edge,rev⟩]:=by rw[HL.out,Oy,if_neg (λh=>by cases bL.out.2 h)]);subst cU;go_wp2_with fail;go_meet;exact⟨rfl,am⟩
        |true=>
         have bj:=bL.out.1 rfl;rw[bE.out]at bj;obtain⟨kq,q,cw,Z⟩:=UG bj;have db:kq<(p::r).length:=(aX.1 Z).1;obtain⟨xq,bB⟩: ∃y,(x::xr)[kq]? =some y:=⟨_,aI (by have:=bS.out;have:=HN.out;omega)⟩;have ai:=HK.out.2 kq xq q bB Z;(have dt:kq<n:=by have:=HN.out;omega);have cR:iq=(kq:Int):=bE.out.trans cw;subst cR;obtain⟨g2,dE,bc,cS,EF⟩:=HX.out.get bB;injection bc with bc;injection bc with c5 dc;subst c5;subst dc;have cC: ∀W',w W'->W'.cell? ⟨g,off+kq*2+1,none⟩=some (.slice xq.A xq.n xq.c):=λW' au=>(au.cell (p:=⟨g,off+kq*2+1,none⟩) cS).trans (EF 1 _ rfl);(have cg:L=FD t [⟨b.edge,rev⟩] q.v:=by rw[HL.out,Oy,if_pos (by omega),Int.toNat_natCast,bH,Z,eG]);(have ch: ∀W,RdP w4 gm w4 ref rev [⟨b.edge,rev⟩] As cs ss gap W->Calls aj 257 #[.agg m.cells,.pointer (some ⟨gm,0,none⟩),.slice xq.A xq.n xq.c] W (λe w'=> ∃v,e=.returned v/\(w4 W->w4 w')/\RdW w4 gm w4 ref rev L As cs ss gap v w'):=λW hP=>by obtain⟨M,A1,c1,h2,h3,h4⟩:=hP;have c8:=h.below j.below;have df:fE aq7 W xq.A q.v:=(ai.row.below j.below).below M;have h5:=adC (w0:=w4) c8 (gm:=gm) (Bq:=w4.heap.size) ref rev As cs ss gap [⟨b.edge,rev⟩] A1 c1 M h2 h3 h4 ⟨aW _,Nat.le_of_lt cQ,M.size,M.size⟩ q.v xq.A xq.c df (λhl a e=>aU (Qb ai.row hl a e) j.below.size) (by have:=ai.c;rw[ai.n]at this;exact this) (bR.out q (bP Z)) ⟨by simp,by simp⟩;rw[<-ai.n,<-cg]at h5;refine h5.mono ?_;intro e w' Q;unfold Uo at Q;cases L with|error er=>exact⟨_,Q.2.1,λ_=>Q.1,rfl,Q.2.2,Q.1⟩|ok path=>obtain⟨A3,c3,h7⟩:=Q.2.2;exact⟨_,Q.2.1,λ_=>Q.1,rfl,Q.1,A3,c3,h7⟩);unfold jl.cells at ch;have xP:Grow (λW W':World=>w4 W->w4 W'):=⟨λW h=>h.trans ((aq3 (aH W W) 1).mono h.size),λ_ _ _ M h2 h=>h2 (M h),λ_ _ N h=>h.trans (N.mono h.size)⟩;have dz:=uy.below;clear cg cw Z db bB ai EF bj;go_wp2_with fail;apply gu ((λW W':World=>w4 W->w4 W')) xP.drew xP.trans (Ag 6 ((λW W':World=>w4 W->w4 W'))) (λ_ _ _ h=>h.g xP) (DK xP) (Wv 6 (RdP w4 gm w4 ref rev [⟨b.edge,rev⟩] As cs ss gap)) (λ_ _=>(λ(W W':World) (h:RdP w4 gm w4 ref rev [⟨b.edge,rev⟩] As cs ss gap W) (N:W W')=>h.below N) _ _ (am) (aq3 gY 1)) (λi dC W W' c9 hp ht e=>(λ(W W':World) (h:RdP w4 gm w4 ref rev [⟨b.edge,rev⟩] As cs ss gap W) (N:W W')=>h.below N) _ _ (hp e) (ht.1 (λej=>c9 (e.trans ej.symm))));(case lX=>intro u;simp only[bV,List.dropLast,aq9,aP,ay,aA,aB,aT,aJ];with_reducible rfl);(case hm=>kernel_rfl);(case hB=>kernel_rfl);(case hA=>kernel_rfl);case hap=>kernel_rfl
         repeat(first
            |(refine fM.one (RdW w4 gm w4 ref rev L As cs ss gap) ?_ ?_
              ·
                (intro u w' O af J
                 replace af:=af rfl
                 simp[fO,aC,gI,Is]at J
                 refine fC ?_ ?_
                 ·
                   first
                   |rfl
                   |(simp[aF,yielded,J];done)
                 intro a9 hK
                 go_wp2_with (go_at_call 257;(with_reducible refine(ch _ af).mono ?_);rintro e w3⟨v3,rfl,c6,de⟩);(try simp only[J]at hK);exact hK _ _ (JJ c6) de))
            |(apply fM.is
              ·
                (intro u w' O af J
                 clear af
                 simp[fO,aC,gI,Is]at J
                 refine fC ?_ ?_
                 ·
                   first
                   |rfl
                   |(simp[aF,yielded,J];done)
                 intro a9 hK
                 have al:=j.grow (O am.1);have cX:=al.b0.cell;have Tc:=cC _ al.below
                 go_wp2_with (fail)
                 try simp only[J]at hK
                 refine hK _ _ ?_ rfl
                 first |exact yS (by decide) |exact Ah (by decide) ac))
            |(apply fM.is
              ·
                (intro u w' O af J
                 clear af
                 simp[fO,aC,gI,Is]at J
                 first |(replace J:=J.1.1) |(replace J:=J.1)
                 refine fC ?_ ?_
                 ·
                   first
                   |rfl
                   |(simp[aF,yielded,J];done)
                 intro a9 hK
                 have al:=j.grow (O am.1);have cX:=al.b0.cell;have Tc:=cC _ al.below
                 go_wp2_with (fail)
                 try simp only[J]at hK
                 refine hK _ _ ?_ rfl
                 first |exact yS (by decide) |exact Ah (by decide) ac)))
         refine fM.last (JK ?_) ?_;(·simp only[gQ];(repeat(refine⟨?_,?_⟩;·first|exact DL _|exact yT (λ_ _ _ h N=>h.grow N)));exact trivial);intro u w2 ds _ J;simp only[gQ]at J;refine⟨rfl,?_⟩;intro a9 hK;have Q:=J 6 _ rfl;clear J;obtain⟨v6,dy⟩:=fD (u 6);replace Q:RdW w4 gm w4 ref rev L As cs ss gap (u 6) w2:=Q;go_wp2_with fail;go_meet;exact Q
       case' rest=>rcases L with er |path;(·obtain⟨rfl,ae,bh⟩:=hcut;have U:Hid (R=.error er):=ah bN.out;(have e7:(er==0)=false:=by rw[beq_eq_false_iff_ne];exact ae);(have e8:(er != 0)=true:=by rw[bne_iff_ne];exact ae);have qx:=j.grow bh;have dl:=qx.b1.frozen;have dm:=qx.b1.cell;go_wp2_with fail;have K:=MV qx.b1 (Nat.le_succ _) qx.below (.int .i64 0) (.bool false) (.slice none 0 0) (.slice none 0 0) (.int .i64 0);refine bodyPost_ret (gU results221 _ _ _ _ _ _ rfl rfl K.1 dA rfl (by kernel_rfl)) rfl ?_;rw[U.out];exact⟨K.2,rfl,ae⟩);focus(obtain⟨rfl,bh,A1,c1,V,cx,cy⟩:=hcut;have qx:=j.grow bh;have dn:=qx.b0.cell;have cJ:=V.cell;(have bX:path.length<=24:=by have M:=HL.out;rw[Oy]at M;split at M;(·exact He _ _ _ _ _ _ _ (by simp) M.symm);·cases M;simp);have bd:oV wc w4 ⟨ref,rev,path,ss,gap⟩ ⟨A1,path.length,c1,As,ss.length,cs⟩:=⟨cx,cy,rfl,rfl,by have:=bX;show path.length<=100;omega,by have:=cF.out;show ss.length<=100;omega⟩;have ag:=Wi (h.below qx.below) _ _ bd.is_;obtain⟨mb,bn⟩:=fD (rX t ⟨ref,rev,path,ss,gap⟩);rw[<-bn]at ag;unfold nO jl.cells at ag;simp only at ag;have bO:Hid (R=if mb=true then .ok ⟨ref,rev,path,ss,gap⟩ else .error 7):=ah (by rw[bN.out,UF,bn]);obtain⟨pn,a7⟩:=fD path.length;obtain⟨sn,a8⟩:=fD ss.length;rw[<-a7,<-a8]at ag bd;rw[<-a7,<-a8]at cJ;rw[<-a7,<-a8]at V;clear bn cx cy bX a7 a8;rcases mb with _ |_;(focus(have U:Hid (R=.error 7):=ah (by rw[bO.out,if_neg (by simp)]);go_wp2_with(go_at_call 41;(with_reducible refine ag.mono ?_);rintro e w9⟨rfl,xW⟩;have FP:=qx.grow xW;have cT:=FP.b1.frozen;have cI:=FP.b1.cell);have K:=MV FP.b1 (Nat.le_succ _) FP.below (.int .i64 0) (.bool false) (.slice none 0 0) (.slice none 0 0) (.int .i64 0)));rotate_left;·have U:Hid (R=.ok ⟨ref,rev,path,ss,gap⟩):=ah (by rw[bO.out,if_pos rfl]);go_wp2_with(go_at_call 41;(with_reducible refine ag.mono ?_);rintro e w9⟨rfl,xW⟩;have FP:=qx.grow xW;have cT:=FP.b1.frozen;have cI:=FP.b1.cell;have dj:=(V.below xW V.lt).cell;have dp:=V.below xW V.lt);have K:=MV FP.b1 (Nat.le_succ _) FP.below (.int .i64 ref) (.bool rev) (.slice A1 pn c1) (.slice As sn cs) (.int .i64 gap);refine bodyPost_ret (gU results221 _ _ _ _ _ _ rfl rfl K.1 dA rfl (by kernel_rfl)) rfl ?_;rw[U.out];refine⟨K.2,⟨A1,pn,c1,As,sn,cs⟩,rfl,?_⟩;have cV:=bd.ji (jV.of_below xW (λ_=>False)) (λ_ h=>h.elim);refine(oV.ji cV (D:=λk=>k=w.heap.size+1) ((((((jV.refl _ _).trans (xg _ _ 0 _)).trans (xg _ _ 1 _)).trans (xg _ _ 2 _)).trans (xg _ _ 3 _)).trans (xg _ _ 4 _)) (λk O=> .inl (by omega))).base j.below.size)))
     rotate_left;(focus(have U:Hid (R=.error 50):=ah (by rw[ak.out,if_pos (.inr rfl)]);go_wp2_with(go_at_call 253;(with_reducible refine av.mono ?_);rintro e w4⟨rfl,bf⟩;have j:=H.grow bf;have dq:=j.b1.frozen;have cN:=j.b1.cell);have K:=MV j.b1 (Nat.le_succ _) j.below (.int .i64 0) (.bool false) (.slice none 0 0) (.slice none 0 0) (.int .i64 0)));all_goals(refine bodyPost_ret (gU results221 _ _ _ _ _ _ rfl rfl K.1 dA rfl (by kernel_rfl)) rfl ?_;rw[U.out];exact⟨K.2,rfl,by decide⟩)
    focus(have U:Hid (R=.error 50):=ah (by rw[ak.out,if_pos (.inl rfl)]);clear av;go_wp2_with fail))))
 rotate_left 3
 ·have e0:(jr t != 0)=true:=by simpa using Y
  have U:Hid (R=.error 1):=ah (by rw[HR.out,if_pos Y]);clear Y lF;go_enter func221,ntmps221;go_wp2_with(go_at_call 36;(with_reducible refine aq.mono ?_);rintro e w2⟨rfl,aa⟩;have d:=hO.grow aa;have az:=d.b0.cell;have aM:=d.b1.cell;have a1:=d.b1.frozen);have K:=MV d.b1 (Nat.le_succ _) d.below (.int .i64 0) (.bool false) (.slice none 0 0) (.slice none 0 0) (.int .i64 0);refine bodyPost_ret (gU results221 _ _ _ _ _ _ rfl rfl K.1 dA rfl (by kernel_rfl)) rfl ?_;rw[U.out];exact⟨K.2,rfl,by decide⟩
 all_goals(have K:=MV H.b1 (Nat.le_succ _) H.below (.int .i64 0) (.bool false) (.slice none 0 0) (.slice none 0 0) (.int .i64 0);refine bodyPost_ret (gU results221 _ _ _ _ _ _ rfl rfl K.1 dA rfl (by kernel_rfl)) rfl ?_;rw[U.out];exact⟨K.2,rfl,by decide⟩)
def MW:Go.Shelf.Ren:=⟨fun |6=>259 |n=>n,fun |22=>40 |23=>60 |25=>354 |3=>3 |0=>0 |4=>4 |n=>n,fun |n=>n⟩
theorem aaD:Go.Proofs.SlLaysH0.n6 aj MW where
  mixed:=by rfl
  f6:=⟨ "slices.IndexFunc[[]lineside/api.Sect,lineside/api.Sect]",by decide,Tryz.func259.trans (congrArg some (by rfl))⟩
  t0:=underlying0
  a0:=isAgg0
  z0:=sizeOf0
  v0:=zeroValue0
  t3:=bG
  a3:=isAgg3
  z3:=sizeOf3
  v3:=zeroValue3
  t4:=dL
  a4:=isAgg4
  z4:=sizeOf4
  v4:=zeroValue4
  t22:=underlying40
  a22:=isAgg40
  z22:=sizeOf40
  v22:=zeroValue40
  t25:=underlying354
  a25:=isAgg354
  z25:=sizeOf354
  v25:=zeroValue354
theorem agW(g:Nat)(H: ∀args w,(callFunc g args).run aj w=.ok (.enter g args) w)(lb:Array Value)(q:Sc->Bool)(A:Option Addr)(n c:Nat)(xs:List Sc)(w:World)(M:PredBelow aj g lb (λx=> .agg (kW.enc x).toArray) q w)(d:fE kW w A xs)(hn:xs.length=n)(J:n<=9223372036854775807):Calls aj 259 #[.slice A n c,.func (.func g) #[] lb] w λe w'=>e=.returned (Lib.idxBy (λ_ y=>q y) xs default:Int)/\w w':=by
 cases n with
 |zero=>
  have:xs= []:=dh.1 hn;subst this;go_enter func259,ntmps259;go_wp2;go_loopg [5,8] 0 (λ_ _ Q wr=>Q=.int .i64 0/\w wr);case atStart=>exact⟨rfl,aH _ _⟩
  case round=>obtain⟨rfl,N⟩:=hrel;go_wp2;go_ret;exact⟨rfl,N⟩
 |succ n=>
  obtain⟨b,off,rfl,K,_⟩:=d.get (aI (show 0<xs.length by omega));have:=AnyQ.slices_IndexFunc aaD 2 isAgg60 sizeOf60 kW.enc kW.len q g lb H b off (n+1) c xs w M (by omega) J K ?_;·rw[<-hn,List.take_length]at this;rw[<-hn];exact this
  ·intro O j i u hi;obtain⟨U,V,e,_,hc⟩:=d.get (aI j);simp only[aO,cZ]at e;obtain⟨rfl,rfl,-⟩:=e;rw[getElem!_pos xs O j]at hi;exact hc i u hi
theorem agX{α:Type}[Inhabited α](q:α->Bool)(l:List α):Lib.idxBy (λ_ y=>q y) l default=sZ q l:=by
 have h: ∀(l:List α) (i:Nat),Lib.idxByFrom (λ_ y=>q y) default l i=match l.findIdx? q with |some d=>((i+d:Nat):Int) |none=> -1:=by intro l;induction l with|nil=>intro i;rfl|cons x l H=>intro i;rw[Lib.idxByFrom,List.findIdx?_cons];cases j:q x with|false=>grind|true=>simp
 unfold Lib.idxBy sZ;rw[h l 0];cases l.findIdx? q with|none=>rfl|some d=>simp
def nN (m:Ma) (z:Int):Ma:=if z<1 then {m with fP:= [],gap:=0} else if sZ (fun s:Sc=>decide (z<=s.kL)) m.fP<0 then m else {m with fP:=(m.fP.take ((sZ (fun s:Sc=>decide (z<=s.kL)) m.fP).toNat+1)).set (sZ (fun s:Sc=>decide (z<=s.kL)) m.fP).toNat ⟨z,((m.fP.getD (sZ (fun s:Sc=>decide (z<=s.kL)) m.fP).toNat ⟨0,0⟩).timer)⟩,gap:=0}
theorem XF: ∀args w,(callFunc 260 args).run aj w=.ok (.enter 260 args) w:=enters_of func260 (by rfl) (by rfl)
theorem aky(x:Sc)(z:Int)(g:Nat)(w:World)(hA:w.cell? ⟨g,0,none⟩=some z)(j:g<w.heap.size):Calls aj 260 #[.agg (kW.enc x).toArray,.pointer g] w λr w'=>r=.returned (.bool (decide (z<=x.kL)))/\w w':=by obtain⟨H,J⟩:=x;simp only[kW];have d:Own w _ [_]:=(Own.nil w).alloc 60 #[H,J] _ rfl;have M:=d.b0.cell;have K:=(d.below.cell (p:=⟨g,0,none⟩) j).trans hA;go_enter func260,ntmps260;go_wp2_with fail;go_ret;exact⟨rfl,d.below⟩
theorem akz{base g c:Nat}{l:List Sc}{cur:Array Value}(j:aq1 kW 60 w base g c l){i:Nat}{x:Sc}(H:l[i]? =some x)(d:fK w g 60 cur)(n:Int):aq1 kW 60 (w.setCell ⟨g,i*2,none⟩ n) base g c (l.set i ⟨n,x.timer⟩):=by
 have hi:=(aX.1 H).1;refine aq1.put j hi ⟨n,x.timer⟩ d ?_;have J:w.cell? ⟨g,i*2+1,none⟩=some x.timer:=by obtain⟨b,off,e,_,hc⟩:=j.rows.get H;injection e with e;injection e with e1 e2;subst e1;subst e2;have:=hc 1 x.timer rfl;rwa [aJ]at this
 have e:arh cur (i*kW.k) (kW.enc ⟨n,x.timer⟩)=cur.setIfInBounds (i*2) n:=by show(cur.setIfInBounds (i*2) n).setIfInBounds (i*2+1) x.timer=_;refine YE ?_;rw[dR (by omega),<-d.cell];exact J
 rw[e];exact d.iV _ _
def am2 (w:World) (m:Ma) (e:Ending) (w':World):Prop:= ∃v,e=.returned (.agg (nO m v))/\oV w' w m v/\w w'
theorem aiu(h:EK w m v)(z:Int):Calls aj 224 #[nO m v,z] w (am2 w (nN m z)):=by
 obtain⟨R,hR⟩:=fD (nN m z);rw[<-hR];have HR:=ah hR;unfold nO;have hO:Own w _ [_,_,_]:=Own.start3 w 42 3 42 #[m.ref,m.rev,.slice v.A1 v.n1 v.c1,.slice v.A2 v.n2 v.c2,m.gap] #[z] gj;have cf:=h.l1;have cg:=h.l2;have bb:=VW v.A1 v.n1 v.c1 m.path _ (h.path.below hO.below) h.e1 (by omega);have am:=λW (hW:w W)=>abL v.A2 v.n2 v.c2 m.fP W (h.fP.below hW) h.e2 (by omega);have bn:=hO.b0.cell;have J:=ah h;obtain⟨A1,n1,c1,A2,n2,c2⟩:=v;simp only at*;go_enter func224,ntmps224;go_upto_region 2 with((with_reducible refine bb.mono ?_);rintro e w1⟨j,q1,rfl,bf,a7⟩;have jc:=hO.grow a7;have bo:=jc.b0.cell;have bx:=jc.b0.frozen)
 have Q:=Own.TP (L1:= []) jc 2 (.slice j n1 q1);have az:=bf.far (g:=w.heap.size) (by simp;omega) (λk V=>aN w1 ⟨w,2,none⟩ (.slice j n1 q1) k V);simp only[ay,aA,aB,aZ]at Q;obtain⟨W2,a5⟩:=fD (w1.setCell ⟨w,2,none⟩ (.slice j n1 q1));rw[<-a5]at Q az ⊢;clear a5 a7 bo bx jc bn bb bf;have bq:=Q.b0.cell;have aR:=am _ Q.below;have bm:w.heap.size<W2.heap.size:=Q.b0.lt;go_upto_region 3 with((with_reducible refine aR.mono ?_);rintro e w3⟨N,q2,rfl,bh,av⟩;have al:=Q.grow av;have bu:=al.b0.cell;have bA:=al.b0.frozen)
 have K:=Own.TP (L1:= []) al 3 (.slice N n2 q2);have Z:=(az.below av).far (g:=w.heap.size) (by simp;omega) (λk V=>aN w3 ⟨w,3,none⟩ (.slice N n2 q2) k V);have aa:=bh.far (g:=w.heap.size) bm (λk V=>aN w3 ⟨w,3,none⟩ (.slice N n2 q2) k V);have ch:w.heap.size+3<=W2.heap.size:=Q.b2.lt;simp only[ay,aA,aB,aZ]at K;obtain⟨W4,Ug⟩:=fD (w3.setCell ⟨w,3,none⟩ (.slice N n2 q2));rw[<-Ug]at K Z aa ⊢;clear Ug av bu bA al bq am aR az bh Q;have a8:=K.b0.cell;have bc:=K.b0.frozen;have aL:=K.b1.cell;have a4: ∀(W:World) (ref:Int) (rev:Bool) (a:Option Addr) (n c:Nat) (a2:Option Addr) (bi a1:Nat) (gap:Int),jV (λk=>k=w.heap.size+1+1) W (((((W.setCell ⟨w.heap.size+1+1,0,none⟩ ref).setCell ⟨w.heap.size+1+1,1,none⟩ rev).setCell ⟨w.heap.size+1+1,2,none⟩ (.slice a n c)).setCell ⟨w.heap.size+1+1,3,none⟩ (.slice a2 bi a1)).setCell ⟨w.heap.size+1+1,4,none⟩ gap):=λW ref rev a n c a2 bi a1 gap=>((((((jV.refl _ _).trans (xg _ _ 0 _)).trans (xg _ _ 1 _)).trans (xg _ _ 2 _)).trans (xg _ _ 3 _)).trans (xg _ _ 4 _));have HF:=ah a4;clear a4;by_cases ad:z<1
 ·have e1:decide (z<1)=true:=by simpa using ad
  have ae:Hid (R={m with fP:= [],gap:=0}):=ah (by rw[HR.out,nN,if_pos ad]);clear ad;go_upto_region 5 with fail;have H:=Own.TP (L1:= []) (Own.TP (L1:= []) K 3 nS) 4 zI;have Gz:=(xg W4 w 3 nS).trans (xg _ w 4 zI);simp only[ay,aA,aB,aZ]at H;obtain⟨W6,af⟩:=fD ((W4.setCell ⟨w,3,none⟩ nS).setCell ⟨w,4,none⟩ zI);rw[<-af]at H Gz ⊢;clear af a8 bc aL K;have ba:=H.b0.cell;have ag:=H.b2.frozen;have bj:=H.b2.cell;go_wp2_with fail;have U:=MV H.b2 (by omega) H.below m.ref m.rev (.slice j n1 q1) nS zI;refine bodyPost_ret (nC results224 _ _ _ _ _ rfl U.1 dA rfl (by rfl)) rfl ?_;rw[ae.out];have ak:=(Z.ji Gz (λx d=>by have:=Z.gJ x d;simp_all;omega)).ji (HF.out W6 m.ref m.rev j n1 q1 none 0 0 0) (λx d=>by have:=Z.gJ x d;simp_all;omega);exact⟨⟨j,n1,q1,none,0,0⟩,rfl,⟨ak.mono (by simp;omega),aq1.nil _ _,J.out.e1,rfl,J.out.l1,aV _⟩,U.2⟩
 ·have e1:decide (z<1)=false:=by simpa using ad
  have ai:=agW 260 XF #[.pointer (some ⟨w.heap.size+1,0,none⟩)] (λs=>decide (z<=s.kL)) N n2 q2 m.fP W4 (λW x hW=>(aky x z (w.heap.size+1) W ((hW.cell (p:=⟨w.heap.size+1,0,none⟩) K.b1.lt).trans (aL 0)) (aU K.b1.lt hW.size)).mono λ_ _ h=>⟨h.1,gZ hW h.2⟩) aa.rows J.out.e2 (by omega);rw[agX]at ai;obtain⟨Y,ap⟩:=fD (sZ (λs:Sc=>decide (z<=s.kL)) m.fP);rw[<-ap]at ai;have aM:=ah ap;have au:Hid (R=if Y<0 then m else {m with fP:=(m.fP.take (Y.toNat+1)).set Y.toNat ⟨z,(m.fP.getD Y.toNat ⟨0,0⟩).timer⟩,gap:=0}):=ah (by rw[HR.out,nN,if_neg ad,<-ap]);clear ap ad;by_cases ac:Y<0;·(have e2:decide (Y<0)=true:=by simpa using ac);have ae:Hid (R=m):=ah (by rw[au.out,if_pos ac]);clear ac;go_wp2_with((with_reducible refine ai.mono ?_);rintro e w5⟨rfl,O⟩;have M:=K.grow O;have a9:=M.b0.cell;have ag:=M.b2.frozen;have bj:=M.b2.cell;have uq:=Z.below O;have IJ:=aa.below O);have U:=MV M.b2 (by omega) M.below m.ref m.rev (.slice j n1 q1) (.slice N n2 q2) m.gap;refine bodyPost_ret (nC results224 _ _ _ _ _ rfl U.1 dA rfl (by rfl)) rfl ?_;rw[ae.out];have ak:=uq.ji (HF.out w5 m.ref m.rev j n1 q1 N n2 q2 m.gap) (λx d=>by have:=uq.gJ x d;simp at this;omega);have aD:=IJ.ji (HF.out w5 m.ref m.rev j n1 q1 N n2 q2 m.gap) (λx d=>by have:=IJ.gJ x d;omega);exact⟨⟨j,n1,q1,N,n2,q2⟩,rfl,⟨ak.mono (by simp;omega),aD.mono (by omega),J.out.e1,J.out.e2,J.out.l1,J.out.l2⟩,U.2⟩
  ·(have e2:decide (Y<0)=false:=by simpa using ac);obtain⟨k,x,V,d⟩:=UG (show 0<=sZ (λs:Sc=>decide (z<=s.kL)) m.fP by rw[<-aM.out];omega);have bR:Y=(k:Int):=aM.out.trans V;subst bR;(have cd:k<n2:=by have h1:=(aX.1 d).1;have h2:m.fP.length=n2:=J.out.e2;omega);have ae:Hid (R={m with fP:=(m.fP.take (k+1)).set k ⟨z,x.timer⟩,gap:=0}):=ah (by rw[au.out,if_neg ac,Int.toNat_natCast,bH,d,eG]);have HX:=ah d;obtain⟨g,cur,rfl,cc,ax,bN,an,bL,_⟩:=aa.blk (aa.some_ (by have:=(aX.1 d).1;omega));(have ci:n2<=q2:=by have h2:m.fP.length=n2:=J.out.e2;omega);clear ac V d bN an bL au;(go_upto_region 9 with((with_reducible refine ai.mono ?_);rintro e w5⟨rfl,O⟩;have M:=K.grow O;have a9:=M.b0.cell;have ag:=M.b2.frozen;have bw:=M.b0.frozen;have uq:=Z.below O;have IJ:=aa.below O;have bd:=ax.below O ax.lt));clear a8 bc aL K Z aa ax O ai;go_upto_region 10 with fail;have H:=Own.TP (L1:= []) M 3 (.slice g (k+1) q2);have Gz:=xg w5 w 3 (.slice g (k+1) q2);simp only[ay,aA,aB,aZ]at H;(have bk:g≠w.heap.size:=by omega);have Vy:=uq.ji Gz (λx d=>by have:=uq.gJ x d;simp at this;omega);have Uf:=IJ.ji Gz (λx d=>by have:=IJ.gJ x d;omega);have XG:=bd.ji Gz bk;have ar:=Uf.ahead (k+1) (by have h2:m.fP.length=n2:=J.out.e2;omega) XG XG rfl rfl;obtain⟨W6,af⟩:=fD (w5.setCell ⟨w,3,none⟩ (.slice g (k+1) q2));(try rw[<-af]at H Vy ar XG ⊢);clear af Uf Gz bd IJ uq M a9 ag bw;have ba:=H.b0.cell;have bS:=H.b1.cell;have ag:=H.b0.frozen;have an:=ar.rows.get (i:=k) (x:=x) (by rw[dG (Nat.lt_succ_self k)];exact HX.out);(have bO:W6.cell? ⟨g,k*2,none⟩=some x.kL:=by obtain⟨b',o',e,_,am⟩:=an;injection e with e;injection e with e1 e2;subst e1;subst e2;have:=am 0 x.kL rfl;rwa [aJ]at this);have bE:=XG.frozen;have aq:=akz ar (i:=k) (x:=x) (by rw[dG (Nat.lt_succ_self k)];exact HX.out) XG z;clear an;go_upto_region 11 with fail;have Qg:=xg W6 g (k*2) z;have uy:=H.ji Qg (λy hy e=>by simp at hy;rcases hy with rfl |rfl |rfl <;> simp at e <;> omega) (λcm hj=>by omega);have Gy:aq1 gV 58 (W6.setCell ⟨g,k*2,none⟩ z) _ j q1 m.path:=Vy.ji Qg (λx d hd=>ard Vy XG (by decide) (by rw[d,hd]));obtain⟨W7,Eo⟩:=fD (W6.setCell ⟨g,k*2,none⟩ z);rw[<-Eo]at uy Gy aq ⊢;clear Eo Qg ar XG H Vy ba bS ag bO bE;have Oe:=uy.b0.cell;have bB:=uy.b0.frozen;go_upto_region 12 with fail;have qx:=Own.TP (L1:= []) uy 4 zI;have aw:=xg W7 w 4 zI;simp only[ay,aA,aB,aZ]at qx;have H7:=Gy.ji aw (λx d=>by have:=Gy.gJ x d;simp at this;omega);have aE:=aq.ji aw (λx d=>by have:=aq.gJ x d;omega);obtain⟨W8,a6⟩:=fD (W7.setCell ⟨w,4,none⟩ zI);rw[<-a6]at qx H7 aE ⊢;clear a6 aw aq uy Gy Oe bB;have bX:=qx.b0.cell;have ca:=qx.b2.frozen;have P9:=qx.b2.cell;go_wp2_with fail;have U:=MV qx.b2 (by omega) qx.below m.ref m.rev (.slice j n1 q1) (.slice g (k+1) q2) zI;refine bodyPost_ret (nC results224 _ _ _ _ _ rfl U.1 dA rfl (by rfl)) rfl ?_;rw[ae.out];have ak:=H7.ji (HF.out W8 m.ref m.rev j n1 q1 g (k+1) q2 0) (λx d=>by have:=H7.gJ x d;simp at this;omega);have aD:=aE.ji (HF.out W8 m.ref m.rev j n1 q1 g (k+1) q2 0) (λx d=>by have:=aE.gJ x d;omega);have h2:m.fP.length=n2:=J.out.e2;exact⟨⟨j,n1,q1,g,k+1,q2⟩,rfl,⟨ak.mono (by simp;omega),aD.mono (by omega),J.out.e1,by simp;omega,J.out.l1,by show k+1<=100;omega⟩,U.2⟩
end Go.Proofs.YthnmgjngniciaaaGreatDoor
