/- Parts. -/
import Derived.Test.YthnmgjngniciaaaGreatDoorRows
import Derived.MakeChecks
import Derived.OpenShut
import Derived.Test.YthnmgjngniciaaaGreatDoorM40
import Derived.ProofKit
import Derived.Lib.SmallJoins
import Derived.ShutString
import Derived.ChangeOld
import Derived.Deep.Slices
set_option linter.all false
set_option maxHeartbeats 16000000
set_option maxRecDepth 8000
open Array renaming getElem?_eq_none→dI
open List renaming getD_eq_getElem?_getD→bH,getElem?_eq_getElem→aI,getElem?_eq_none→dQ,getElem?_map→bW,getElem?_take_of_lt→dG,length_map→eU
open Nat renaming le_refl→aW,lt_or_ge→eu,zero_add→aJ,zero_le→aV
open Option renaming getD_some→eG,map_some→eF
open Option.some renaming injEq→aO
namespace Go.Proofs.YthnmgjngniciaaaGreatDoor
open Go.RowKit Go.Shelf Go.Proofs.Tryz
open DataW renaming trod→dZ
open Go.Proofs.Tryz renaming prog→aj,underlying27→dB,underlying3→bG,underlying34→bD,underlying4→dL,underlying42→dA,underlying44→bg,underlying45→dW
open Value renaming cells→aS
variable{c:Cp}{now:Int}{b:List UInt8}{q:P7}{p:gG}{t:Tp}{m:jl}{w:World}
theorem ae8(k:K4)(s q:P7)(d:List UInt8)(M:enc s=d)(O:nI k s=true)(i:Nat)(j:UInt8)(hi:i<d.length)(K:j≠0)(N:enc q=d.set i (nth d i ^^^ j)):nI k q=false:=by
 cases h:nI k q with
 |false=>rfl
 |true=>
  subst M;refine absurd N (asl k s q O h i _ hi ?_);intro e;apply K;have J:nth (enc s) i ^^^ (nth (enc s) i ^^^ j)=nth (enc s) i ^^^ nth (enc s) i:=by rw[e]
  rw[<-UInt8.xor_assoc,UInt8.xor_self,UInt8.zero_xor]at J;exact J
theorem LD{k:Int}(h:jw p q k=0):p.state=2/\nI p.key q=true:=by unfold jw at h;grind
theorem QW(h:iT p q=0):p.state=1/\nI p.base q=true:=by unfold iT at h;grind
theorem XZ(h:(Bv t now c q).2=0):jw c.peer q 5=0:=by
 unfold Bv at h;split at h;·rename_i d;exact absurd h d
 ·rename_i d;exact Decidable.not_not.1 d
theorem OQ(h:(wW t now c b).2=0): ∃q,vY b=some q/\((c.peer.state=1/\nI c.peer.base q=true)\/(c.peer.state=2/\nI c.peer.key q=true)):=by
 unfold wW at h;cases j:vY b with
 |none=>rw[j]at h;cases h
 |some q=>
  rw[j]at h;refine⟨q,rfl,?_⟩;simp only at h;split at h;·split at h;(·rename_i d;exact absurd h d);·rename_i d;exact .inl (QW (Decidable.not_not.1 d))
  ·split at h;(·split at h;(·rename_i d;exact absurd h d);·rename_i d;exact .inr (LD (Decidable.not_not.1 d)));·split at h;(·exact .inr (LD (XZ h)));·cases h
theorem Vj(i:Nat)(y:UInt8)(hi:i<b.length)(N:y≠0)(h:(wW t now c b).2=0):(wW t now c (b.set i (nth b i ^^^ y))).2≠0:=λd=>by obtain⟨q,K,h⟩:=OQ h;obtain⟨r,M,d⟩:=OQ d;have e1:=((GU b q).1 K).2;have e2:=((GU _ r).1 M).2;have J:=λk j=>ae8 k q r b e1 j i y hi N e2;rcases h with⟨s,h⟩ |⟨s,h⟩ <;> rcases d with⟨O,d⟩ |⟨O,d⟩ <;> first |(rw[J _ h]at d;cases d) |omega
theorem Vk(h:laidMetH prog [("lineside/vars.widths",Rows.laid_lineside_vars_widths)] w):Tab w:=by
 rw[MakeChecks.laidMetH_plain _ _ _ (by kernel_rfl)] at h;obtain⟨ps,⟨g,t,cs,fuel,p,q,K,ht,O,Y,_,_⟩,_,_⟩:=h;obtain rfl:=Option.some.inj ((show Tryz.prog.globalNamed "lineside/vars.widths" =some 0 by kernel_rfl).symm.trans K);obtain rfl:=Option.some.inj ((show(Tryz.prog.globals[0]?).map (·.type)=some 297 by kernel_rfl).symm.trans ht);obtain⟨xs,m,_,U,_,hl,Z⟩:=DataW.trod_array underlying297 Y;have Q:Tryz.prog.cellsOf 3=1:=by kernel_rfl
 have e3:(xs.map (·.1))=oh.map λn=>(DataW.lit (.int .i64 n):DataW Unit):=(DataW.agg.inj (Prod.mk.inj U).1).symm;have M:xs.length=oh.length:=by simpa using congrArg List.length e3
 have ac:0<w.heap.size:=by
  have J:=O;unfold World.var? at J;rw[K]at J;simp only[Option.bind_some]at J;rcases eu 0 w.heap.size with h |h;·exact h
  ·rw[dI h]at J;cases J
 refine λ_=>⟨0,0,rfl,ac,λr u j=>?_⟩;have aa:aq7.flat oh=oh.map λn=> .int .i64 n:=rfl;rw[aa,bW]at j;have d:r<oh.length:=by
  rcases eu r oh.length with h |h;·exact h
  ·rw[dQ h]at j;cases j
 have N:=Z r (by rw[<-hl,M];exact d);rw[Q,Nat.mul_one,aI (by rw[M];exact d)]at N;obtain⟨z,e1,e2,_⟩:=DataW.trod_int bG N;have e4:=congrArg (λl=>l[r]?) e3;simp only[bW,aI d,aI (show r<xs.length by rw[M];exact d),e2,eF,aO,DataW.lit.injEq,Lit.int.injEq,true_and]at e4;rw[aI d,<-e4]at j;rw[aJ,World.var?_cell K O r,<-j];have V:((cs.toList.drop r).take 1)[0]? =some (.int .i64 z):=by rw[e1];rfl
 simpa using V
theorem anJ(h:TpL w t m)(hc:m.n4<=9223372036854775807)(x:Tr)(d:kZ)(k y:Int)(A:Option Addr)(n c:Nat):Calls aj 8 #[m.cells,jf x d,.agg #[k,y,.slice A n c]] w λe w'=>e=.returned (.bool (xB t m&&decide (d.v.n1<=100)&&decide (d.v.n2<=100)&&decide (d.n3<=40)&&decide (n<=2000)))/\w w':=by
 have j:Own w _ [_,_,_]:=Own.start3 w 27 44 48 m.cells (jf x d) #[k,y,.slice A n c];have V:=j.b0.cell;have Z:=j.b1.cell;have J:=λW (N:w W)=>aa6 (h.below N) hc x.ma d.v;generalize (xB t m&&decide (d.v.n1<=100)&&decide (d.v.n2<=100))=lt at*;have aa:=acf x d;have ac:=acg x d;have ad:=Zy x d;have ae:=Wj x d;have af:=ach x d;have ag:=Wn x d;unfold nO at J;unfold jl.cells at*;have f1:decide ((d.n3:Int)<=40)=decide (d.n3<=40):=by rw[decide_eq_decide];omega
 have Q:decide ((n:Int)<=2000)=decide (n<=2000):=by rw[decide_eq_decide];omega
 generalize decide (d.n3<=40)=K at*;generalize decide (n<=2000)=M at*
 cases lt <;> cases K <;> cases M <;> (
   go_enter func8,ntmps8
   go_wp2_with (first
     |((with_reducible refine(J _ j.below).mono ?_);rintro e w1⟨rfl,O⟩;replace j:=j.grow O;have Y:=j.b1.cell;have U:=j.b2.cell))
   go_ret
   exact⟨rfl,j.below⟩)
def Ht (w:World) (t:Tp) (now:Int) (c:Cp) (bs:List UInt8) (e:Ending) (w':World):Prop:= ∃x m er A n k,e=.returned (.tuple #[.agg (jf x m),.slice A n k,.int .i64 er])/\(er=0->(wW t now c bs).2=0)/\(er≠0->n=0)/\w w'
theorem ahP: ∃x m,nR=jf x m:=⟨⟨0,0,⟨0,0,0,0,0,0,0,0,0⟩,0,0,0,0,0,false,0,false,⟨0,0,false⟩,0,0,false,⟨0,false,[],[],0⟩,0,false,[]⟩,⟨⟨0,0,0,0,0,0,0,0,0,0,0,false,0,0⟩,0,⟨none,0,0,none,0,0⟩,none,0,0⟩,by kernel_rfl⟩
theorem Zc(h:jE w t m)(U:Tab w)(x:Tr)(d:kZ)(hx:zJ w x d)(now:Int)(bs:List UInt8)(Ak:Option Addr)(nk ck:Nat)(Z:nk=bs.length)(hB:aq2 w Ak ck bs)(Y:bs.length<=2000)(aa:x.stops.length<=60):Calls aj 9 #[m.cells,jf x d,.agg #[(1:Int),zI,.slice Ak nk ck],now] w (Ht w t now ⟨x,d.q,d.nx,[]⟩ bs):=by
 refine(QV h U x d hx 1 0 now bs Ak nk ck Z hB Y aa).mono λe w' ⟨Q,M,N⟩=>?_;have hF:yB t now ⟨x,d.q,d.nx,[]⟩ 1 0 bs=wW t now ⟨x,d.q,d.nx,[]⟩ bs:=by simp[yB]
 rw[hF]at M N;have O: ∀er,er≠0->LC w er e w'->Ht w t now ⟨x,d.q,d.nx,[]⟩ bs e w':=λer j J=>by obtain⟨zx,zm,hz⟩:=ahP;exact⟨zx,zm,er,none,0,0,by rw[<-hz];exact J.1,λh=>absurd h j,λ_=>rfl,J.2⟩
 by_cases K:Ee t x 1 now;·exact O 1 (by decide) (Q K)
 ·by_cases j:(wW t now ⟨x,d.q,d.nx,[]⟩ bs).2=0;·obtain⟨s,Bq,g,J,hp,V⟩:=N K j;exact⟨s.x,s.m,0,_,_,_,V,λ_=>j,λh=>absurd rfl h,J.below⟩
  ·exact O _ j (M K j)
section
open Go.ChangeShapes Go.WideShapes Go.ChangeAt Go.RowKit
open Go.ChangeMaps (open_string shut_string)
theorem own:ownKnob aj.godebug=none:=by kernel_rfl
theorem arG:laidOutB aj=true:=by kernel_rfl
section
variable {H:Type} {enc:TypeId × Value->H} {w:World} {base:Nat} {spare:Nat->Bool} {held:Bool}
theorem rV{fuel:Nat}{v:Value}{x:DataW H × List MemPlace}(h:dZ enc aj w base spare held fuel 30 [v]=some x): ∃a:BitVec 32,v=q32 a:=by
 obtain⟨n,e,_,j⟩:=DataW.trod_int underlying30 h;obtain rfl:v=.int .u32 n:=by simpa using e
 have d:=bounds_u32 j;exact⟨_,Ze n d.1 (by omega)⟩
end
end
section
open Go.ChangeShapes Go.WideShapes Go.ChangeAt Go.RowKit Go.Deep
theorem ar4{w:World}{a:Addr}{v:Value}(h:w.cell? a=some v):a.block<w.heap.size:=by
 rcases eu a.block w with d |d;·exact d
 ·simp[World.cell?,dI d]at h
section
variable {H:Type} {enc:TypeId × Value->H} {w:World} {base:Nat} {spare:Nat->Bool}
theorem aiF(n:Int)(h:(Lit.int .u8 n).wf=true):Value.int .u8 n=q8 (UInt8.ofNat n.toNat):=by have d:=bounds_u8 h;unfold q8;congr 1;simp only[UInt8.toNat_ofNat'];omega
set_option maxRecDepth 100000 in
theorem ahQ{r:Reach}{b0:Nat}{v:Value}{d:DataW H}{p:List MemPlace}{held:Bool}(j:Value.okWide aj w r b0 5 v)(h:DataW.Trod enc aj w base spare held 5 v d p): ∃a:UInt8,v=q8 a:=by obtain⟨n,rfl,_,_,J⟩:=open_int underlying5 j h;exact⟨_,aiF n J⟩
set_option maxRecDepth 100000 in
theorem ar1{r:Reach}{b0:Nat}{v:Value}{U:DataW H}{p:List MemPlace}{held:Bool}(hv:Value.okWide aj w r b0 45 v)(h:DataW.Trod enc aj w base (λ_=>true) held 45 v U p): ∃bs,jG bs v w:=by
 obtain⟨A,n,c,rfl⟩:=okWide_slice dW hv;obtain⟨fuel,Z⟩:=h;have Y:aj.cellsOf 5=1:=by kernel_rfl
 rcases open_ints dW underlying5 Y Z with⟨j,hx⟩ |⟨a,af,ae,N,j,_,hl,hm,hz,hx,O,ac⟩;·simp[aS]at j;obtain⟨rfl,rfl,rfl⟩:=j;exact⟨[],none,0,rfl,aq2.nil _⟩
 ·simp[aS]at j;obtain⟨rfl,rfl,rfl⟩:=j;simp only[if_true]at hz;have M:((N.take n).map λn=>UInt8.ofNat n.toNat).length=n:=by simp;omega
  refine⟨(N.take n).map λn=>UInt8.ofNat n.toNat,some a,c,by rw[M],?_,by rw[M];exact hl,hm⟩;intro V;rw[aq8,M]at V;obtain⟨ab,ao,ad⟩:=a;have aa:ad=none:=by simpa[Addr.add] using World.cell?_spot (O 0 (by omega))
  subst aa;refine⟨ab,ao,rfl,?_,?_⟩;·have:=O 0 (by omega);exact ar4 this
  ·intro K u d;(have J:K<n:=by rcases eu K n with J |J;(·exact J);·rw[dQ (by rw[aq8,M];exact J)]at d;cases d);have Q:=O K (by omega);rw[Addr.add_lit]at Q;rw[Q];have e:N[K]? =some (N[K]'(by omega)):=aI (by omega);rw[bH,e];unfold aq6 at d;rw[bW,bW,dG J,e]at d;simp only[eF,aO]at d;rw[<-d,eG,aiF _ (ac _ (List.getElem_mem _))]
theorem aq4{held:Bool}{fuel:Nat}{v:Value}{x:DataW H × List MemPlace}(d:dZ enc aj w base spare held fuel 3 [v]=some x): ∃n:Int,v=.int .i64 n:=by obtain⟨n,e,_,_⟩:=DataW.trod_int bG d;exact⟨n,by simpa using e⟩
end
end
section
open Go.ChangeShapes Go.WideShapes Go.ChangeAt Go.RowKit Go.Deep
structure MaL (w:World) (m:Ma) (v:DF):Prop where
  path:fE gV w v.A1 m.path
  fP:fE kW w v.A2 m.fP
  e1:m.path.length=v.n1
  e2:m.fP.length=v.n2
  q1:v.n1<=v.c1
  q2:v.n2<=v.c2
structure TrL (w:World) (x:Tr) (m:kZ):Prop where
  ma:MaL w x.ma m.v
  stops:fE aq7 w m.A3 x.stops
  e3:x.stops.length=m.n3
  q3:m.n3<=m.c3
  lo: -9223372036854775808<=x.last
  hi:x.last<=9223372036854775807
theorem TrL.is{w:World}{x:Tr}{m:kZ}(h:TrL w x m)(d:m.v.n1<=100)(j:m.v.n2<=100)(J:m.n3<=100):zJ w x m:=⟨⟨h.ma.path,h.ma.fP,h.ma.e1,h.ma.e2,d,j,h.ma.q1,h.ma.q2⟩,h.stops,h.e3,J,h.q3⟩
theorem MaL.below{w w':World}{x:Ma}{m:DF}(h:MaL w x m)(d:w w'):MaL w' x m:={h with path:=h.path.below d,fP:=h.fP.below d}
theorem TrL.below{w w':World}{x:Tr}{m:kZ}(h:TrL w x m)(d:w w'):TrL w' x m:={h with ma:=h.ma.below d,stops:=h.stops.below d}
theorem Zd{α:Type}{P:Nat->α->Prop}: ∀n:Nat,(∀i,i<n-> ∃p,P i p)-> ∃xs:List α,xs.length=n/\ ∀i p,xs[i]? =some p->P i p
 |0,_=>⟨[],rfl,λi p h=>by simp at h⟩
 |n+1,h=>by
  obtain⟨xs,j,K⟩:=Zd n (λi hi=>h i (by omega));obtain⟨p,J⟩:=h n (by omega);refine⟨xs++ [p],by simp[j],λi q d=>?_⟩;rw[List.getElem?_append]at d;split at d;·exact K i q d
  ·(have hi:i-xs.length=0:=by rcases Nat.eq_zero_or_pos (i-xs.length) with h |h;(·exact h);·rw[dQ (by simp;omega)]at d;cases d);rw[hi]at d;simp at d;subst d;(have:i=n:=by omega);subst this;exact J
section
variable {H:Type} {enc:TypeId × Value->H} {w:World} {base:Nat} {spare:Nat->Bool}
theorem mG{held:Bool}{fuel:Nat}{v:Value}{x:DataW H × List MemPlace}(d:dZ enc aj w base spare held fuel 4 [v]=some x): ∃b:Bool,v=.bool b:=by obtain⟨b,e,_⟩:=DataW.trod_bool dL d;exact⟨b,by simpa using e⟩
theorem Ip{held:Bool}{fuel:Nat}{cs:List Value}{x:DataW H × List MemPlace}(M:cs.length=4)(K:dZ enc aj w base spare held fuel 32 cs=some x): ∃k:K4,cs= [q32 k.k0,q32 k.k1,q32 k.k2,q32 k.k3]:=by
 have J:aj.cellsOf 30=1:=by kernel_rfl
 obtain⟨xs,m,_,_,_,N,d⟩:=DataW.trod_array underlying32 K;rw[J]at d;match cs,M with| [c0,c1,c2,c3],_=>match xs,N with| [y0,y1,y2,y3],_=>obtain⟨a,rfl⟩:=rV (x:=y0) (by simpa[aS] using d 0 (by decide));obtain⟨b,rfl⟩:=rV (x:=y1) (by simpa[aS] using d 1 (by decide));obtain⟨c,rfl⟩:=rV (x:=y2) (by simpa[aS] using d 2 (by decide));obtain⟨j,rfl⟩:=rV (x:=y3) (by simpa[aS] using d 3 (by decide));exact⟨⟨a,b,c,j⟩,rfl⟩
theorem pI{α:Type}(E:arb α){U N:TypeId}(M:α->Prop)(Q:aj.underlying U=some (.slice N))(hk:aj.cellsOf N=E.k){held:Bool}(ho: ∀fuel cs x,dZ enc aj w base (λ_=>true) held fuel N cs=some x-> ∃a,cs=E.enc a/\M a){fuel:Nat}{v:Value}{x:DataW H × List MemPlace}(hf:dZ enc aj w base (λ_=>true) held fuel U [v]=some x): ∃(xs:List α) (A:Option Addr) (c:Nat),v=.slice A xs.length c/\fE E w A xs/\xs.length<=c/\c<=maxLen/\ ∀a∈xs,M a:=by
 rcases open_slice Q hf with⟨J,_⟩ |⟨a,len,cap,m,n,D,Pl,Y,_,hl,hm,ac,_,hi⟩;·simp only[List.cons.injEq,and_true]at J;subst J;exact⟨[],none,0,rfl,fE.nil _ _,aW _,aV _,by simp⟩
 ·simp only[List.cons.injEq,and_true]at Y;subst Y;simp only[if_true]at ac;subst ac;rw[hk]at hi;have ai:=E.pos;obtain⟨xs,K,hx⟩:=Zd (P:=λi (p:α)=>M p/\ ∀d u,(E.enc p)[d]? =some u->w.cell? (a.add (i*E.k+d))=some u) len (λi an=>by obtain⟨cs',hc,Q⟩:=hi i (by omega);obtain⟨p,rfl,hB⟩:=ho _ _ _ Q;obtain⟨_,am,ae⟩:=World.cells?_some hc;refine⟨p,hB,λd u j=>?_⟩;(have hj:d<E.k:=by rcases eu d E.k with h |h;(·exact h);·rw[dQ (by rw[E.len];exact h)]at j;cases j);rw[<-Go.Deep.add_add,ae d hj,j]);refine⟨xs,some a,_,by rw[K],?_,by rw[K];exact hl,hm,λp hp=>?_⟩;·intro J;rw[E.flat_length,K]at J;(have O: ∀d u,(E.flat xs)[d]? =some u->w.cell? (a.add d)=some u:=by intro d u j;(have ag:d<xs.length*E.k:=by rw[<-E.flat_length];rcases eu d (E.flat xs).length with h |h;(·exact h);·rw[dQ h]at j;cases j);have Z:d / E.k<xs.length:=Nat.div_lt_of_lt_mul (by rw[Nat.mul_comm];exact ag);have ad:xs[d / E.k]? =some (xs[d / E.k]'Z):=aI Z;have e:=E.IZ ad (d % E.k) (Nat.mod_lt _ ai);(have aa:d / E.k*E.k+d % E.k=d:=by rw[Nat.mul_comm];exact Nat.div_add_mod d E.k);rw[aa,j]at e;have:=(hx _ _ ad).2 (d % E.k) u e.symm;rwa [aa]at this);obtain⟨ab,ao,al⟩:=a;have V:(E.flat xs)[0]? =some ((E.flat xs)[0]'(by rw[E.flat_length,K];exact J)):=aI _;(have ak:al=none:=by simpa[Addr.add] using World.cell?_spot (O 0 _ V));subst ak;exact⟨ab,ao,rfl,by simpa[Addr.add] using ar4 (O 0 _ V),λd u j=>by have:=O d u j;rwa [Addr.add_lit]at this⟩
  ·obtain⟨i,af⟩:=List.getElem?_of_mem hp;exact(hx i p af).1
theorem QY{held:Bool}{fuel:Nat}{v:Value}{x:DataW H × List MemPlace}(j:dZ enc aj w base spare held fuel 3 [v]=some x): ∃n:Int,v=.int .i64 n/\ -9223372036854775808<=n/\n<=9223372036854775807:=by obtain⟨n,e,_,d⟩:=DataW.trod_int bG j;exact⟨n,by simpa using e,(bounds_i64 d).1,(bounds_i64 d).2⟩
set_option maxRecDepth 100000 in
theorem QZ{held:Bool}{fuel:Nat}{cs:List Value}{x:DataW H × List MemPlace}(K:dZ enc aj w base (λ_=>true) held fuel 58 cs=some x): ∃s:St,cs=gV.enc s:=by
 have hc:aj.cellsOf 58=2:=by kernel_rfl
 have c3:aj.cellsOf 3=1:=by kernel_rfl
 have cb:aj.cellsOf 4=1:=by kernel_rfl
 obtain⟨xs,n,_,_,j,M,d⟩:=DataW.trod_struct underlying58 K;rw[hc]at j;match cs,j,xs,M with|y0::y1:: [],_,[x0,x1],_=>obtain⟨J,rfl⟩:=aq4 (v:=y0) (x:=x0) (by simpa[aS,c3] using d 0 _ rfl);obtain⟨f1,rfl⟩:=mG (v:=y1) (x:=x1) (by simpa[aS,cb] using d 1 _ rfl);exact⟨⟨J,f1⟩,rfl⟩
set_option maxRecDepth 100000 in
theorem Iq{held:Bool}{fuel:Nat}{cs:List Value}{x:DataW H × List MemPlace}(K:dZ enc aj w base (λ_=>true) held fuel 125 cs=some x): ∃s:En,cs= [.int .i64 s.edge,.int .i64 s.at_]:=by
 have hc:aj.cellsOf 125=2:=by kernel_rfl
 have c3:aj.cellsOf 3=1:=by kernel_rfl
 obtain⟨xs,n,_,_,j,M,d⟩:=DataW.trod_struct underlying125 K;rw[hc]at j;match cs,j,xs,M with|y0::y1:: [],_,[x0,x1],_=>obtain⟨J,rfl⟩:=aq4 (v:=y0) (x:=x0) (by simpa[aS,c3] using d 0 _ rfl);obtain⟨f1,rfl⟩:=aq4 (v:=y1) (x:=x1) (by simpa[aS,c3] using d 1 _ rfl);exact⟨⟨J,f1⟩,rfl⟩
set_option maxRecDepth 100000 in
theorem Nb{held:Bool}{fuel:Nat}{cs:List Value}{x:DataW H × List MemPlace}(M:dZ enc aj w base (λ_=>true) held fuel 127 cs=some x): ∃s:Jt,cs=qV.enc s:=by
 have hc:aj.cellsOf 127=4:=by kernel_rfl
 have ce:aj.cellsOf 125=2:=by kernel_rfl
 obtain⟨xs,n,_,_,J,N,j⟩:=DataW.trod_struct underlying127 M;rw[hc]at J;match cs,J,xs,N with|y0::y1::y2::y3:: [],_,[x0,x1],_=>obtain⟨K,d⟩:=Iq (cs:= [y0,y1]) (x:=x0) (by simpa[aS,ce] using j 0 _ rfl);simp only[List.cons.injEq,and_true]at d;obtain⟨rfl,rfl⟩:=d;obtain⟨f1,e1⟩:=Iq (cs:= [y2,y3]) (x:=x1) (by simpa[aS,ce] using j 1 _ rfl);simp only[List.cons.injEq,and_true]at e1;obtain⟨rfl,rfl⟩:=e1;exact⟨⟨K,f1⟩,rfl⟩
set_option maxRecDepth 100000 in
theorem Vq{held:Bool}{fuel:Nat}{cs:List Value}{x:DataW H × List MemPlace}(M:dZ enc aj w base (λ_=>true) held fuel 114 cs=some x): ∃s:Bl,cs=qW.enc s:=by
 have hc:aj.cellsOf 114=3:=by kernel_rfl
 have c3:aj.cellsOf 3=1:=by kernel_rfl
 obtain⟨xs,n,_,_,j,N,d⟩:=DataW.trod_struct underlying114 M;rw[hc]at j;match cs,j,xs,N with|y0::y1::y2:: [],_,[x0,x1,x2],_=>obtain⟨J,rfl⟩:=aq4 (v:=y0) (x:=x0) (by simpa[aS,c3] using d 0 _ rfl);obtain⟨f1,rfl⟩:=aq4 (v:=y1) (x:=x1) (by simpa[aS,c3] using d 1 _ rfl);obtain⟨K,rfl⟩:=aq4 (v:=y2) (x:=x2) (by simpa[aS,c3] using d 2 _ rfl);exact⟨⟨J,f1,K⟩,rfl⟩
set_option maxRecDepth 100000 in
theorem Q5{held:Bool}{fuel:Nat}{cs:List Value}{x:DataW H × List MemPlace}(K:dZ enc aj w base (λ_=>true) held fuel 60 cs=some x): ∃s:Sc,cs=kW.enc s:=by
 have hc:aj.cellsOf 60=2:=by kernel_rfl
 have c3:aj.cellsOf 3=1:=by kernel_rfl
 obtain⟨xs,n,_,_,j,M,d⟩:=DataW.trod_struct underlying60 K;rw[hc]at j;match cs,j,xs,M with|y0::y1:: [],_,[x0,x1],_=>obtain⟨J,rfl⟩:=aq4 (v:=y0) (x:=x0) (by simpa[aS,c3] using d 0 _ rfl);obtain⟨f1,rfl⟩:=aq4 (v:=y1) (x:=x1) (by simpa[aS,c3] using d 1 _ rfl);exact⟨⟨J,f1⟩,rfl⟩
theorem Dt{held:Bool}{fuel:Nat}{v:Value}{x:DataW H × List MemPlace}(d:dZ enc aj w base (λ_=>true) held fuel 39 [v]=some x): ∃(xs:List _) (A:Option Addr) (c:Nat),v=.slice A xs.length c/\fE gV w A xs/\xs.length<=c/\c<=maxLen/\ ∀a∈xs,(λ_=>True) a:=pI gV (λ_=>True) underlying39 (by kernel_rfl) (λ_ _ _ h=>(QZ h).imp λ_ e=>⟨e,trivial⟩) d
theorem Nc{held:Bool}{fuel:Nat}{v:Value}{x:DataW H × List MemPlace}(d:dZ enc aj w base (λ_=>true) held fuel 40 [v]=some x): ∃(xs:List _) (A:Option Addr) (c:Nat),v=.slice A xs.length c/\fE kW w A xs/\xs.length<=c/\c<=maxLen/\ ∀a∈xs,(λ_=>True) a:=pI kW (λ_=>True) underlying40 (by kernel_rfl) (λ_ _ _ h=>(Q5 h).imp λ_ e=>⟨e,trivial⟩) d
theorem LJ{held:Bool}{fuel:Nat}{v:Value}{x:DataW H × List MemPlace}(d:dZ enc aj w base (λ_=>true) held fuel 23 [v]=some x): ∃(xs:List _) (A:Option Addr) (c:Nat),v=.slice A xs.length c/\fE qV w A xs/\xs.length<=c/\c<=maxLen/\ ∀a∈xs,(λ_=>True) a:=pI qV (λ_=>True) underlying23 (by kernel_rfl) (λ_ _ _ h=>(Nb h).imp λ_ e=>⟨e,trivial⟩) d
theorem Q7{held:Bool}{fuel:Nat}{v:Value}{x:DataW H × List MemPlace}(d:dZ enc aj w base (λ_=>true) held fuel 24 [v]=some x): ∃(xs:List _) (A:Option Addr) (c:Nat),v=.slice A xs.length c/\fE qW w A xs/\xs.length<=c/\c<=maxLen/\ ∀a∈xs,(λ_=>True) a:=pI qW (λ_=>True) underlying24 (by kernel_rfl) (λ_ _ _ h=>(Vq h).imp λ_ e=>⟨e,trivial⟩) d
theorem Q8{held:Bool}{fuel:Nat}{cs:List Value}{x:DataW H × List MemPlace}(d:dZ enc aj w base spare held fuel 3 cs=some x): ∃n:Int,cs=aq7.enc n:=by obtain⟨n,e,_,_⟩:=DataW.trod_int bG d;exact⟨n,e⟩
theorem FZ{held:Bool}{fuel:Nat}{v:Value}{x:DataW H × List MemPlace}(d:dZ enc aj w base (λ_=>true) held fuel 22 [v]=some x): ∃(xs:List _) (A:Option Addr) (c:Nat),v=.slice A xs.length c/\fE aq7 w A xs/\xs.length<=c/\c<=maxLen/\ ∀a∈xs,(λ_=>True) a:=pI aq7 (λ_=>True) underlying22 (by kernel_rfl) (λ_ _ _ h=>(Q8 h).imp λ_ e=>⟨e,trivial⟩) d
set_option maxRecDepth 100000 in
theorem Nh{held:Bool}{fuel:Nat}{cs:List Value}{x:DataW H × List MemPlace}(O:dZ enc aj w base (λ_=>true) held fuel 97 cs=some x): ∃s:Rt × Option Addr × Nat,cs=zT.enc s/\(fE gV w s.2.1 s.1.path/\s.1.path.length<=s.2.2):=by
 have hc:aj.cellsOf 97=4:=by kernel_rfl
 have c3:aj.cellsOf 3=1:=by kernel_rfl
 have K:aj.cellsOf 39=1:=by kernel_rfl
 obtain⟨xs,n,_,_,j,Q,d⟩:=DataW.trod_struct underlying97 O;rw[hc]at j;match cs,j,xs,Q with|y0::y1::y2::y3:: [],_,[x0,x1,x2,x3],_=>obtain⟨M,rfl⟩:=aq4 (v:=y0) (x:=x0) (by simpa[aS,c3] using d 0 _ rfl);obtain⟨f1,A1,r1,rfl,J,L1,U,V⟩:=Dt (v:=y1) (x:=x1) (by simpa[aS,K] using d 1 _ rfl);obtain⟨N,rfl⟩:=aq4 (v:=y2) (x:=x2) (by simpa[aS,c3] using d 2 _ rfl);obtain⟨f3,rfl⟩:=aq4 (v:=y3) (x:=x3) (by simpa[aS,c3] using d 3 _ rfl);exact⟨(⟨M,f1,N,f3⟩,A1,r1),rfl,J,L1⟩
theorem LK{held:Bool}{fuel:Nat}{v:Value}{x:DataW H × List MemPlace}(d:dZ enc aj w base (λ_=>true) held fuel 25 [v]=some x): ∃(xs:List _) (A:Option Addr) (c:Nat),v=.slice A xs.length c/\fE zT w A xs/\xs.length<=c/\c<=maxLen/\ ∀a∈xs,(λs=>fE gV w s.2.1 s.1.path/\s.1.path.length<=s.2.2) a:=pI zT (λs=>fE gV w s.2.1 s.1.path/\s.1.path.length<=s.2.2) underlying25 (by kernel_rfl) (λ_ _ _ h=>Nh h) d
set_option maxRecDepth 100000 in
theorem Q9{held:Bool}{fuel:Nat}{cs:List Value}{x:DataW H × List MemPlace}(hf:dZ enc aj w base (λ_=>true) held fuel 27 cs=some x): ∃(t:Tp) (m:jl),cs=m.cells.toList/\TpL w t m/\m.c1<=maxLen/\m.c2<=maxLen/\m.c3<=maxLen/\m.c4<=maxLen:=by
 have hc:aj.cellsOf 27=4:=by kernel_rfl
 have ci:aj.cellsOf 22=1:=by kernel_rfl
 have cj:aj.cellsOf 23=1:=by kernel_rfl
 have aa:aj.cellsOf 24=1:=by kernel_rfl
 have cr:aj.cellsOf 25=1:=by kernel_rfl
 obtain⟨xs,n,_,_,N,ac,d⟩:=DataW.trod_struct dB hf;rw[hc]at N;match cs,N,xs,ac with|y0::y1::y2::y3:: [],_,[x0,x1,x2,x3],_=>obtain⟨K,O,r0,rfl,R0,Q,V,Q0⟩:=FZ (v:=y0) (x:=x0) (by simpa[aS,ci] using d 0 _ rfl);obtain⟨f1,A1,r1,rfl,R1,L1,Y,Q1⟩:=LJ (v:=y1) (x:=x1) (by simpa[aS,cj] using d 1 _ rfl);obtain⟨M,A2,r2,rfl,R2,L2,Z,Q2⟩:=Q7 (v:=y2) (x:=x2) (by simpa[aS,aa] using d 2 _ rfl);obtain⟨f3,A3,r3,rfl,R3,U,M3,J⟩:=LK (v:=y3) (x:=x3) (by simpa[aS,cr] using d 3 _ rfl);exact⟨⟨K,f1,M,f3.map (λx=>x.1)⟩,⟨O,K.length,r0,A1,f1.length,r1,A2,M.length,r2,A3,f3.length,r3,f3⟩,rfl,⟨⟨R0,R1,R2,R3,rfl,λp j=>(J p j).1⟩,rfl,rfl,rfl,eU _,Q,L1,L2,U,λp j=>(J p j).2⟩,V,Y,Z,M3⟩
set_option maxRecDepth 100000 in
theorem abe{r:Reach}{b0:Nat}{v:Value}{d:DataW H}{p:List MemPlace}{held:Bool}(K:Value.okWide aj w r b0 27 v)(h:DataW.Trod enc aj w base (λ_=>true) held 27 v d p): ∃s:Tp × jl,v=.agg s.2.cells/\TpL w s.1 s.2/\s.2.c1<=maxLen/\s.2.c2<=maxLen/\s.2.c3<=maxLen/\s.2.c4<=maxLen:=by obtain⟨cs,rfl,M⟩:=okWide_struct dB K;obtain⟨fuel,j⟩:=h;obtain⟨t,m,e,J⟩:=Q9 (cs:=cs.toList) (by simpa[aS] using j);exact⟨(t,m),by rw[<-Array.toArray_toList (xs:=cs),e],J⟩
set_option maxRecDepth 100000 in
theorem Vr{held:Bool}{fuel:Nat}{cs:List Value}{x:DataW H × List MemPlace}(M:dZ enc aj w base (λ_=>true) held fuel 38 cs=some x): ∃s:Ps,cs= [.int .i64 s.edge,.int .i64 s.at_,.bool s.rev]:=by
 have hc:aj.cellsOf 38=3:=by kernel_rfl
 have c3:aj.cellsOf 3=1:=by kernel_rfl
 have cb:aj.cellsOf 4=1:=by kernel_rfl
 obtain⟨xs,n,_,_,j,N,d⟩:=DataW.trod_struct underlying38 M;rw[hc]at j;match cs,j,xs,N with|y0::y1::y2:: [],_,[x0,x1,x2],_=>obtain⟨J,rfl⟩:=aq4 (v:=y0) (x:=x0) (by simpa[aS,c3] using d 0 _ rfl);obtain⟨f1,rfl⟩:=aq4 (v:=y1) (x:=x1) (by simpa[aS,c3] using d 1 _ rfl);obtain⟨K,rfl⟩:=mG (v:=y2) (x:=x2) (by simpa[aS,cb] using d 2 _ rfl);exact⟨⟨J,f1,K⟩,rfl⟩
set_option maxRecDepth 100000 in
theorem Nj{held:Bool}{fuel:Nat}{cs:List Value}{x:DataW H × List MemPlace}(V:dZ enc aj w base (λ_=>true) held fuel 29 cs=some x): ∃s:Rl,cs= [.int .i64 s.ahead,.int .i64 s.behind,.int .i64 s.period,.int .i64 s.most,.int .i64 s.quiet,.int .i64 s.oJ,.int .i64 s.wI,.int .i64 s.skew,.int .i64 s.lend]:=by
 have hc:aj.cellsOf 29=9:=by kernel_rfl
 have c3:aj.cellsOf 3=1:=by kernel_rfl
 obtain⟨xs,n,_,_,j,Y,d⟩:=DataW.trod_struct underlying29 V;rw[hc]at j;match cs,j,xs,Y with|y0::y1::y2::y3::y4::y5::y6::y7::y8:: [],_,[x0,x1,x2,x3,x4,x5,x6,x7,x8],_=>obtain⟨J,rfl⟩:=aq4 (v:=y0) (x:=x0) (by simpa[aS,c3] using d 0 _ rfl);obtain⟨f1,rfl⟩:=aq4 (v:=y1) (x:=x1) (by simpa[aS,c3] using d 1 _ rfl);obtain⟨K,rfl⟩:=aq4 (v:=y2) (x:=x2) (by simpa[aS,c3] using d 2 _ rfl);obtain⟨f3,rfl⟩:=aq4 (v:=y3) (x:=x3) (by simpa[aS,c3] using d 3 _ rfl);obtain⟨M,rfl⟩:=aq4 (v:=y4) (x:=x4) (by simpa[aS,c3] using d 4 _ rfl);obtain⟨N,rfl⟩:=aq4 (v:=y5) (x:=x5) (by simpa[aS,c3] using d 5 _ rfl);obtain⟨O,rfl⟩:=aq4 (v:=y6) (x:=x6) (by simpa[aS,c3] using d 6 _ rfl);obtain⟨Q,rfl⟩:=aq4 (v:=y7) (x:=x7) (by simpa[aS,c3] using d 7 _ rfl);obtain⟨U,rfl⟩:=aq4 (v:=y8) (x:=x8) (by simpa[aS,c3] using d 8 _ rfl);exact⟨{ahead:=J,behind:=f1,period:=K,most:=f3,quiet:=M,oJ:=N,wI:=O,skew:=Q,lend:=U},rfl⟩
set_option maxRecDepth 100000 in
theorem Nk{held:Bool}{fuel:Nat}{cs:List Value}{x:DataW H × List MemPlace}(M:dZ enc aj w base (λ_=>true) held fuel 36 cs=some x): ∃s:Int × Int × Int × Bool,cs= [.int .i64 s.1,.int .i64 s.2.1,.int .i64 s.2.2.1,.bool s.2.2.2]:=by
 have hc:aj.cellsOf 36=4:=by kernel_rfl
 have c3:aj.cellsOf 3=1:=by kernel_rfl
 have cb:aj.cellsOf 4=1:=by kernel_rfl
 obtain⟨xs,n,_,_,j,N,d⟩:=DataW.trod_struct underlying36 M;rw[hc]at j;match cs,j,xs,N with|y0::y1::y2::y3:: [],_,[x0,x1,x2,x3],_=>obtain⟨J,rfl⟩:=aq4 (v:=y0) (x:=x0) (by simpa[aS,c3] using d 0 _ rfl);obtain⟨f1,rfl⟩:=aq4 (v:=y1) (x:=x1) (by simpa[aS,c3] using d 1 _ rfl);obtain⟨K,rfl⟩:=aq4 (v:=y2) (x:=x2) (by simpa[aS,c3] using d 2 _ rfl);obtain⟨f3,rfl⟩:=mG (v:=y3) (x:=x3) (by simpa[aS,cb] using d 3 _ rfl);exact⟨(J,f1,K,f3),rfl⟩
set_option maxRecDepth 100000 in
theorem X4{held:Bool}{fuel:Nat}{cs:List Value}{x:DataW H × List MemPlace}(Y:dZ enc aj w base (λ_=>true) held fuel 42 cs=some x): ∃s:Ma × DF,cs= [.int .i64 s.1.ref,.bool s.1.rev,.slice s.2.A1 s.2.n1 s.2.c1,.slice s.2.A2 s.2.n2 s.2.c2,.int .i64 s.1.gap]/\MaL w s.1 s.2:=by
 have hc:aj.cellsOf 42=5:=by kernel_rfl
 have c3:aj.cellsOf 3=1:=by kernel_rfl
 have cb:aj.cellsOf 4=1:=by kernel_rfl
 have O:aj.cellsOf 39=1:=by kernel_rfl
 have Q:aj.cellsOf 40=1:=by kernel_rfl
 obtain⟨xs,n,_,_,J,Z,d⟩:=DataW.trod_struct dA Y;rw[hc]at J;match cs,J,xs,Z with|y0::y1::y2::y3::y4:: [],_,[x0,x1,x2,x3,x4],_=>obtain⟨U,rfl⟩:=aq4 (v:=y0) (x:=x0) (by simpa[aS,c3] using d 0 _ rfl);obtain⟨f1,rfl⟩:=mG (v:=y1) (x:=x1) (by simpa[aS,cb] using d 1 _ rfl);obtain⟨j,A2,r2,rfl,M,L2,M2,Q2⟩:=Dt (v:=y2) (x:=x2) (by simpa[aS,O] using d 2 _ rfl);obtain⟨f3,A3,r3,rfl,N,K,M3,Q3⟩:=Nc (v:=y3) (x:=x3) (by simpa[aS,Q] using d 3 _ rfl);obtain⟨V,rfl⟩:=aq4 (v:=y4) (x:=x4) (by simpa[aS,c3] using d 4 _ rfl);exact⟨(⟨U,f1,j,f3,V⟩,⟨A2,j.length,r2,A3,f3.length,r3⟩),rfl,⟨M,N,rfl,rfl,L2,K⟩⟩
set_option maxRecDepth 100000 in
theorem Rf{held:Bool}{fuel:Nat}{cs:List Value}{x:DataW H × List MemPlace}(hf:dZ enc aj w base (λ_=>true) held fuel 34 cs=some x): ∃(s t:Int) (q:Zx),cs= [.int .i64 s,.int .i64 t,q32 q.k0,q32 q.k1,q32 q.k2,q32 q.k3,.int .i64 q.state,q32 q.a,q32 q.b,q32 q.j0,q32 q.j1,q32 q.j2,q32 q.j3,q.half,q32 q.a2,q32 q.b2]:=by
 have hc:aj.cellsOf 34=16:=by kernel_rfl
 have c3:aj.cellsOf 3=1:=by kernel_rfl
 have cb:aj.cellsOf 4=1:=by kernel_rfl
 have j:aj.cellsOf 30=1:=by kernel_rfl
 have ck:aj.cellsOf 32=4:=by kernel_rfl
 obtain⟨xs,n,_,_,N,aa,d⟩:=DataW.trod_struct bD hf;rw[hc]at N;match cs,N,xs,aa with|y0::y1::y2::y3::y4::y5::y6::y7::y8::y9::y10::y11::y12::y13::y14::y15:: [],_,[x0,x1,x2,x3,x4,x5,x6,x7,x8,x9],_=>obtain⟨O,rfl⟩:=aq4 (v:=y0) (x:=x0) (by simpa[aS,c3] using d 0 _ rfl);obtain⟨f1,rfl⟩:=aq4 (v:=y1) (x:=x1) (by simpa[aS,c3] using d 1 _ rfl);obtain⟨J,e2⟩:=Ip (cs:= [y2,y3,y4,y5]) (x:=x2) rfl (by simpa[aS,ck] using d 2 _ rfl);simp only[List.cons.injEq,and_true]at e2;obtain⟨rfl,rfl,rfl,rfl⟩:=e2;obtain⟨f3,rfl⟩:=aq4 (v:=y6) (x:=x3) (by simpa[aS,c3] using d 3 _ rfl);obtain⟨Q,rfl⟩:=rV (v:=y7) (x:=x4) (by simpa[aS,j] using d 4 _ rfl);obtain⟨U,rfl⟩:=rV (v:=y8) (x:=x5) (by simpa[aS,j] using d 5 _ rfl);obtain⟨K,M⟩:=Ip (cs:= [y9,y10,y11,y12]) (x:=x6) rfl (by simpa[aS,ck] using d 6 _ rfl);simp only[List.cons.injEq,and_true]at M;obtain⟨rfl,rfl,rfl,rfl⟩:=M;obtain⟨V,rfl⟩:=mG (v:=y13) (x:=x7) (by simpa[aS,cb] using d 7 _ rfl);obtain⟨Y,rfl⟩:=rV (v:=y14) (x:=x8) (by simpa[aS,j] using d 8 _ rfl);obtain⟨Z,rfl⟩:=rV (v:=y15) (x:=x9) (by simpa[aS,j] using d 9 _ rfl);exact⟨O,f1,⟨J.k0,J.k1,J.k2,J.k3,f3,Q,U,K.k0,K.k1,K.k2,K.k3,V,Y,Z⟩,rfl⟩
set_option maxRecDepth 100000 in
theorem Nl{held:Bool}{fuel:Nat}{cs:List Value}{x:DataW H × List MemPlace}(hf:dZ enc aj w base (λ_=>true) held fuel 44 cs=some x): ∃s:Tr × kZ,cs=(jf s.1 s.2).toList/\TrL w s.1 s.2:=by
 have hc:aj.cellsOf 44=48:=by kernel_rfl
 have c3:aj.cellsOf 3=1:=by kernel_rfl
 have cb:aj.cellsOf 4=1:=by kernel_rfl
 have aa:aj.cellsOf 30=1:=by kernel_rfl
 have af:aj.cellsOf 29=9:=by kernel_rfl
 have ad:aj.cellsOf 34=16:=by kernel_rfl
 have ag:aj.cellsOf 36=4:=by kernel_rfl
 have ae:aj.cellsOf 38=3:=by kernel_rfl
 have ac:aj.cellsOf 42=5:=by kernel_rfl
 have ci:aj.cellsOf 22=1:=by kernel_rfl
 obtain⟨xs,n,_,_,Q,ap,d⟩:=DataW.trod_struct bg hf;rw[hc]at Q;match cs,Q,xs,ap with|y0::y1::y2::y3::y4::y5::y6::y7::y8::y9::y10::y11::y12::y13::y14::y15::y16::y17::y18::y19::y20::y21::y22::y23::y24::y25::y26::y27::y28::y29::y30::y31::y32::y33::y34::y35::y36::y37::y38::y39::y40::y41::y42::y43::y44::y45::y46::y47:: [],_,[x0,x1,x2,x3,x4,x5,x6,x7,x8,x9,x10,x11,x12,x13,x14,x15],_=>obtain⟨f0,rfl⟩:=aq4 (v:=y0) (x:=x0) (by simpa[aS,c3] using d 0 _ rfl);obtain⟨f1,rfl⟩:=aq4 (v:=y1) (x:=x1) (by simpa[aS,c3] using d 1 _ rfl);obtain⟨f2,e2⟩:=Nj (cs:= [y2,y3,y4,y5,y6,y7,y8,y9,y10]) (x:=x2) (by simpa[aS,af] using d 2 _ rfl);simp only[List.cons.injEq,and_true]at e2;obtain⟨rfl,rfl,rfl,rfl,rfl,rfl,rfl,rfl,rfl⟩:=e2;obtain⟨f3,g3,q3,e3⟩:=Rf (cs:= [y11,y12,y13,y14,y15,y16,y17,y18,y19,y20,y21,y22,y23,y24,y25,y26]) (x:=x3) (by simpa[aS,ad] using d 3 _ rfl);simp only[List.cons.injEq,and_true]at e3;obtain⟨rfl,rfl,rfl,rfl,rfl,rfl,rfl,rfl,rfl,rfl,rfl,rfl,rfl,rfl,rfl,rfl⟩:=e3;obtain⟨f4,rfl⟩:=rV (v:=y27) (x:=x4) (by simpa[aS,aa] using d 4 _ rfl);obtain⟨j,K⟩:=Nk (cs:= [y28,y29,y30,y31]) (x:=x5) (by simpa[aS,ag] using d 5 _ rfl);simp only[List.cons.injEq,and_true]at K;obtain⟨rfl,rfl,rfl,rfl⟩:=K;obtain⟨f6,rfl,aq,an⟩:=QY (v:=y32) (x:=x6) (by simpa[aS,c3] using d 6 _ rfl);obtain⟨f7,rfl⟩:=mG (v:=y33) (x:=x7) (by simpa[aS,cb] using d 7 _ rfl);obtain⟨f8,M⟩:=Vr (cs:= [y34,y35,y36]) (x:=x8) (by simpa[aS,ae] using d 8 _ rfl);simp only[List.cons.injEq,and_true]at M;obtain⟨rfl,rfl,rfl⟩:=M;obtain⟨f9,rfl⟩:=aq4 (v:=y37) (x:=x9) (by simpa[aS,c3] using d 9 _ rfl);obtain⟨ai,rfl⟩:=aq4 (v:=y38) (x:=x10) (by simpa[aS,c3] using d 10 _ rfl);obtain⟨ak,rfl⟩:=mG (v:=y39) (x:=x11) (by simpa[aS,cb] using d 11 _ rfl);obtain⟨N,J,V⟩:=X4 (cs:= [y40,y41,y42,y43,y44]) (x:=x12) (by simpa[aS,ac] using d 12 _ rfl);simp only[List.cons.injEq,and_true]at J;obtain⟨rfl,rfl,rfl,rfl,rfl⟩:=J;obtain⟨al,rfl⟩:=aq4 (v:=y45) (x:=x13) (by simpa[aS,c3] using d 13 _ rfl);obtain⟨am,rfl⟩:=mG (v:=y46) (x:=x14) (by simpa[aS,cb] using d 14 _ rfl);obtain⟨O,U,ar,rfl,Z,Y,au,av⟩:=FZ (v:=y47) (x:=x15) (by simpa[aS,ci] using d 15 _ rfl);exact⟨({id:=f0,len:=f1,rl:=f2,side:=f3,fG:=g3,sl:=j.1,sa:=j.2.1,sb:=j.2.2.1,free:=j.2.2.2,last:=f6,on:=f7,pos:=f8,ref:=f9,past:=ai,rev:=ak,ma:=N.1,at_:=al,held:=am,stops:=O},⟨q3,f4,N.2,U,O.length,ar⟩),rfl,⟨V,Z,rfl,Y,aq,an⟩⟩
set_option maxRecDepth 100000 in
theorem X5{r:Reach}{b0:Nat}{v:Value}{d:DataW H}{p:List MemPlace}{held:Bool}(K:Value.okWide aj w r b0 44 v)(h:DataW.Trod enc aj w base (λ_=>true) held 44 v d p): ∃s:Tr × kZ,v=.agg (jf s.1 s.2)/\TrL w s.1 s.2:=by obtain⟨cs,rfl,M⟩:=okWide_struct bg K;obtain⟨fuel,j⟩:=h;obtain⟨s,e,J⟩:=Nl (cs:=cs.toList) (by simpa[aS] using j);exact⟨s,by rw[<-Array.toArray_toList (xs:=cs),e],J⟩
end
end
end Go.Proofs.YthnmgjngniciaaaGreatDoor
