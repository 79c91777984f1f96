/- Parts. -/
import Derived.Test.YthnmgjngniciaaaGreatDoorRows
import Derived.MakeChecks
import Derived.OpenShut
import Derived.Test.YthnmgjngniciaaaGreatDoorV10
import Derived.ProofKit
import Derived.Lib.SmallJoins
import Derived.ShutString
import Derived.ChangeOld
import Derived.Deep.Slices
import Derived.LaidMore
import Derived.Stop.Joined
import Derived.SevenTiedAt
set_option linter.all false
set_option maxHeartbeats 16000000
set_option maxRecDepth 8000
open Array renaming getElem?_eq_none->dI,getElem?_eq_some_iff->dM,getElem?_setIfInBounds_ne->dR
open Bool renaming and_eq_true->bM
open List renaming cons_append->bQ,getElem?_eq_getElem->aI,getElem?_eq_none->dQ,getElem?_eq_some_iff->aX,getElem?_map->bW,length_map->eU,map->bV,mem_cons->bJ,nil_append->aZ,not_mem_nil->dH,setIfInBounds_toArray->ay,set_cons_succ->aB,set_cons_zero->aA
open Nat renaming le_refl->aW,le_succ->ϗ,le_trans->aG,lt_of_lt_of_le->aU,lt_or_ge->eu,reduceAdd->aT,zero_add->aJ,zero_le->aV
open Option renaming map_some->eF
open Option.some renaming injEq->aO
namespace Go.Proofs.YthnmgjngniciaaaGreatDoor
open Go renaming Addr->δ,Calls->Γ,Ending->ε,MemPlace->θ,TypeId->τ,Value->Θ,World->ω,maxLen->μ,setRow_other->ζ,undef->υ,wp_store_row->η,yielded->ψ
open Go.RowKit Go.Shelf Go.Proofs.Tryz
open Act renaming put->aP
open Below renaming heap_setCell->aN,refl->aH
open DataW renaming trod->dZ
open Go.Lib renaming hid->ah
open Region renaming binds->aC,wanted->aF
open Go.Proofs.Tryz renaming prog->aj,underlying27->dB,underlying3->bG,underlying34->bD,underlying4->dL,underlying42->dA,underlying44->bg
open Value renaming cells->aS,oneCell'->aK
structure fY0
def fY:fY0:=⟨⟩
instance:Coe fY0 (Array Θ):=⟨fun _=>#[.int .i64 0]⟩
variable{w:ω}
def Vk(h:laidMetH prog [("lineside/vars.widths",Rows.laid_lineside_vars_widths)] w):Tab w:=by
 rw[MakeChecks.laidMetH_plain _ _ _ (by kernel_rfl)] at h;obtain⟨ps,⟨g,t,cs,fuel,p,q,K,ht,O,Y,_,_⟩,_,_⟩:=h;obtain rfl:=Option.some.inj ((show Tryz.prog.globalNamed "lineside/vars.widths" =some 0 by kernel_rfl).symm.trans K);obtain rfl:=Option.some.inj ((show(Tryz.prog.globals[0]?).map (·.type)=some 297 by kernel_rfl).symm.trans ht);obtain⟨xs,m,_,U,_,hl,Z⟩:=DataW.trod_array underlying297 Y;have Q:Tryz.prog.cellsOf 3=1:=by kernel_rfl
 have e3:(xs.map (·.1))=oh.map λn=>(DataW.lit (.int .i64 n):DataW Unit):=(DataW.agg.inj (Prod.mk.inj U).1).symm;have M:xs.length=oh.length:=by simpa using ξ List.length e3
 have ac:0<w.heap.size:=by
  have J:=O;unfold World.var? at J;rw[K]at J;simp only[Option.bind_some]at J;rcases eu 0 w.heap.size with h |h;.exact h
  .rw[dI h]at J;cases J
 refine λ_=>⟨0,0,rfl,ac,λr u j=>?_⟩;have aa:aq7.flat oh=oh.map λn=> .int .i64 n:=rfl;rw[aa,bW]at j;have d:r<oh.length:=by
  rcases eu r oh.length with h |h;.exact h
  .rw[dQ h]at j;cases j
 have N:=Z r (by rw[<-hl,M];exact d);rw[Q,Nat.mul_one,aI (by rw[M];exact d)]at N;obtain⟨z,e1,e2,_⟩:=DataW.trod_int bG N;have e4:=ξ (λl=>l[r]?) e3;simp only[bW,aI d,aI (show r<xs.length by rw[M];exact d),e2,eF,aO,DataW.lit.injEq,Lit.int.injEq,true_and]at e4;rw[aI d,<-e4]at j;rw[aJ,World.var?_cell K O r,<-j];have V:((cs.toList.drop r).take 1)[0]? =some (.int .i64 z):=by rw[e1];rfl
 simpa using V
def anJ{t:Tp}{m:jl}(h:TpL w t m)(hc:m.n4<=9223372036854775807)(x:Tr)(d:kZ)(k y:Int)(A:Option δ)(n c:Nat):Γ aj 8 #[m.cells,jf x d,.agg #[k,y,.slice A n c]] w λe w'=>e=.returned (.bool (xB t m&&decide (d.v.n1<=100)&&decide (d.v.n2<=100)&&decide (d.n3<=40)&&decide (n<=2000)))/\w w':=by
 have j:Own w _ [_,_,_]:=Own.start3 w 27 44 48 m.cells (jf x d) #[k,y,.slice A n c];have V:=j.b0.cell;have Z:=j.b1.cell;have J:=λW (N:w W)=>aa6 (h.below N) hc x.ma d.v;generalize (xB t m&&decide (d.v.n1<=100)&&decide (d.v.n2<=100))=lt at*;have aa:=acf x d;have ac:=acg x d;have ad:=Zy x d;have ae:=Wj x d;have af:=ach x d;have ag:=Wn x d;unfold nO at J;unfold jl.cells at*;have f1:decide ((d.n3:Int)<=40)=decide (d.n3<=40):=by rw[decide_eq_decide];omega
 have Q:decide ((n:Int)<=2000)=decide (n<=2000):=by rw[decide_eq_decide];omega
 generalize decide (d.n3<=40)=K at*;generalize decide (n<=2000)=M at*
 cases lt <;> cases K <;> cases M <;> (
   go_enter func8,ntmps8
   go_wp2_with (first
     |((with_reducible refine(J _ j.below).mono ?_);rintro e w1⟨rfl,O⟩;replace j:=j.grow O;have Y:=j.b1.cell;have U:=j.b2.cell))
   go_ret
   exact⟨rfl,j.below⟩)
section
open Go.ChangeShapes Go.WideShapes Go.ChangeAt Go.RowKit
open Go.ChangeMaps (open_string shut_string)
def own:ownKnob aj.godebug=none:=by kernel_rfl
def arG:laidOutB aj=true:=by kernel_rfl
section
variable {H:Type} {enc:τ × Θ->H} {w:ω} {base:Nat} {spare:Nat->Bool} {held:Bool}
def rV{fuel:Nat}{v:Θ}{x:DataW H × List θ}(h:dZ enc aj w base spare held fuel 30 [v]=some x): ∃a:BitVec 32,v=q32 a:=by
 obtain⟨n,e,_,j⟩:=DataW.trod_int underlying30 h;obtain rfl:v=.int .u32 n:=by simpa using e
 have d:=bounds_u32 j;exact⟨_,Ze n d.1 (by omega)⟩
end
end
section
open Go.ChangeShapes Go.WideShapes Go.ChangeAt Go.RowKit Go.Deep
def ar4{w:ω}{a:δ}{v:Θ}(h:w.cell? a=some v):a.block<w.heap.size:=by
 rcases eu a.block w with d |d;.exact d
 .simp[World.cell?,dI d]at h
section
variable {H:Type} {enc:τ × Θ->H} {w:ω} {base:Nat} {spare:Nat->Bool}
def aiF(n:Int)(h:(Lit.int .u8 n).wf=true):Value.int .u8 n=q8 (UInt8.ofNat n.toNat):=by have d:=bounds_u8 h;unfold q8;congr 1;simp only[UInt8.toNat_ofNat'];omega
def aq4{held:Bool}{fuel:Nat}{v:Θ}{x:DataW H × List θ}(d:dZ enc aj w base spare held fuel 3 [v]=some x): ∃n:Int,v=.int .i64 n:=by obtain⟨n,e,_,_⟩:=DataW.trod_int bG d;exact⟨n,by simpa using e⟩
end
end
section
open Go.ChangeShapes Go.WideShapes Go.ChangeAt Go.RowKit Go.Deep
structure MaL (w:ω) (m:Ma) (v:DF):Prop where
  path:fE gV w v.A1 m.path
  fP:fE kW w v.A2 m.fP
  e1:m.path.length=v.n1
  e2:m.fP.length=v.n2
  q1:v.n1<=v.c1
  q2:v.n2<=v.c2
structure TrL (w:ω) (x:Tr) (m:kZ):Prop where
  ma:MaL w x.ma m.v
  stops:fE aq7 w m.A3 x.stops
  e3:x.stops.length=m.n3
  q3:m.n3<=m.c3
  lo: -9223372036854775808<=x.last
  hi:x.last<=9223372036854775807
def TrL.is{w:ω}{x:Tr}{m:kZ}(h:TrL w x m)(d:m.v.n1<=100)(j:m.v.n2<=100)(J:m.n3<=100):zJ w x m:=⟨⟨h.ma.path,h.ma.fP,h.ma.e1,h.ma.e2,d,j,h.ma.q1,h.ma.q2⟩,h.stops,h.e3,J,h.q3⟩
def MaL.below{w w':ω}{x:Ma}{m:DF}(h:MaL w x m)(d:w w'):MaL w' x m:={h with path:=h.path.below d,fP:=h.fP.below d}
def TrL.below{w w':ω}{x:Tr}{m:kZ}(h:TrL w x m)(d:w w'):TrL w' x m:={h with ma:=h.ma.below d,stops:=h.stops.below d}
def Zd{α:Type}{P:Nat->α->Prop}: ∀n:Nat,(∀i,i<n-> ∃p,P i p)-> ∃xs:List α,xs.length=n/\ ∀i p,xs[i]? =some p->P i p
 |0,_=>⟨[],rfl,λi p h=>by simp at h⟩
 |n+1,h=>by
  obtain⟨xs,j,K⟩:=Zd n (λi hi=>h i (by omega));obtain⟨p,J⟩:=h n (by omega);refine⟨xs++ [p],by simp[j],λi q d=>?_⟩;rw[List.getElem?_append]at d;split at d;.exact K i q d
  ·(have hi:i-xs.length=0:=by rcases Nat.eq_zero_or_pos (i-xs.length) with h |h;(.exact h);.rw[dQ (by simp;omega)]at d;cases d);rw[hi]at d;simp at d;subst d;(have:i=n:=by omega);subst this;exact J
section
variable {H:Type} {enc:τ × Θ->H} {w:ω} {base:Nat} {spare:Nat->Bool}
def mG{held:Bool}{fuel:Nat}{v:Θ}{x:DataW H × List θ}(d:dZ enc aj w base spare held fuel 4 [v]=some x): ∃b:Bool,v=.bool b:=by obtain⟨b,e,_⟩:=DataW.trod_bool dL d;exact⟨b,by simpa using e⟩
def Ip{held:Bool}{fuel:Nat}{cs:List Θ}{x:DataW H × List θ}(M:cs.length=4)(K:dZ enc aj w base spare held fuel 32 cs=some x): ∃k:K4,cs= [q32 k.k0,q32 k.k1,q32 k.k2,q32 k.k3]:=by
 have J:aj.cellsOf 30=1:=by kernel_rfl
 obtain⟨xs,m,_,_,_,N,d⟩:=DataW.trod_array underlying32 K;rw[J]at d;match cs,M with| [c0,c1,c2,c3],_=>match xs,N with| [y0,y1,y2,y3],_=>obtain⟨a,rfl⟩:=rV (x:=y0) (by simpa[aS] using d 0 (by decide));obtain⟨b,rfl⟩:=rV (x:=y1) (by simpa[aS] using d 1 (by decide));obtain⟨c,rfl⟩:=rV (x:=y2) (by simpa[aS] using d 2 (by decide));obtain⟨j,rfl⟩:=rV (x:=y3) (by simpa[aS] using d 3 (by decide));exact⟨⟨a,b,c,j⟩,rfl⟩
def pI{α:Type}(E:arb α){U N:τ}(M:α->Prop)(Q:aj.underlying U=some (.slice N))(hk:aj.cellsOf N=E.k){held:Bool}(ho: ∀fuel cs x,dZ enc aj w base (λ_=>true) held fuel N cs=some x-> ∃a,cs=E.enc a/\M a){fuel:Nat}{v:Θ}{x:DataW H × List θ}(hf:dZ enc aj w base (λ_=>true) held fuel U [v]=some x): ∃(xs:List α) (A:Option δ) (c:Nat),v=.slice A xs.length c/\fE E w A xs/\xs.length<=c/\c<=μ/\ ∀a∈xs,M a:=by
 rcases open_slice Q hf with⟨J,_⟩ |⟨a,len,cap,m,n,D,Pl,Y,_,hl,hm,ac,_,hi⟩;.simp only[List.cons.injEq,and_true]at J;subst J;exact⟨[],none,0,rfl,fE.nil _ _,aW _,aV _,by simp⟩
 .simp only[List.cons.injEq,and_true]at Y;subst Y;simp only[if_true]at ac;subst ac;rw[hk]at hi;have ai:=E.pos;obtain⟨xs,K,hx⟩:=Zd (P:=λi (p:α)=>M p/\ ∀d u,(E.enc p)[d]? =some u->w.cell? (a.add (i*E.k+d))=some u) len (λi an=>by obtain⟨cs',hc,Q⟩:=hi i (by omega);obtain⟨p,rfl,hB⟩:=ho _ _ _ Q;obtain⟨_,am,ae⟩:=World.cells?_some hc;refine⟨p,hB,λd u j=>?_⟩;(have hj:d<E.k:=by rcases eu d E.k with h |h;(.exact h);.rw[dQ (by rw[E.len];exact h)]at j;cases j);rw[<-Go.Deep.add_add,ae d hj,j]);refine⟨xs,some a,_,by rw[K],?_,by rw[K];exact hl,hm,λp hp=>?_⟩;.intro J;rw[E.flat_length,K]at J;(have O: ∀d u,(E.flat xs)[d]? =some u->w.cell? (a.add d)=some u:=by intro d u j;(have ag:d<xs.length*E.k:=by rw[<-E.flat_length];rcases eu d (E.flat xs).length with h |h;(.exact h);.rw[dQ h]at j;cases j);have Z:d / E.k<xs.length:=Nat.div_lt_of_lt_mul (by rw[Nat.mul_comm];exact ag);have ad:xs[d / E.k]? =some (xs[d / E.k]'Z):=aI Z;have e:=E.IZ ad (d % E.k) (Nat.mod_lt _ ai);(have aa:d / E.k*E.k+d % E.k=d:=by rw[Nat.mul_comm];exact Nat.div_add_mod d E.k);rw[aa,j]at e;have:=(hx _ _ ad).2 (d % E.k) u e.symm;rwa [aa]at this);obtain⟨ab,ao,al⟩:=a;have V:(E.flat xs)[0]? =some ((E.flat xs)[0]'(by rw[E.flat_length,K];exact J)):=aI _;(have ak:al=none:=by simpa[Addr.add] using World.cell?_spot (O 0 _ V));subst ak;exact⟨ab,ao,rfl,by simpa[Addr.add] using ar4 (O 0 _ V),λd u j=>by have:=O d u j;rwa [Addr.add_lit]at this⟩
  .obtain⟨i,af⟩:=List.getElem?_of_mem hp;exact(hx i p af).1
def QY{held:Bool}{fuel:Nat}{v:Θ}{x:DataW H × List θ}(j:dZ enc aj w base spare held fuel 3 [v]=some x): ∃n:Int,v=.int .i64 n/\ -9223372036854775808<=n/\n<=9223372036854775807:=by obtain⟨n,e,_,d⟩:=DataW.trod_int bG j;exact⟨n,by simpa using e,(bounds_i64 d).1,(bounds_i64 d).2⟩
set_option maxRecDepth 100000 in
def QZ{held:Bool}{fuel:Nat}{cs:List Θ}{x:DataW H × List θ}(K:dZ enc aj w base (λ_=>true) held fuel 58 cs=some x): ∃s:St,cs=gV.enc s:=by
 have hc:aj.cellsOf 58=2:=by kernel_rfl
 have c3:aj.cellsOf 3=1:=by kernel_rfl
 have cb:aj.cellsOf 4=1:=by kernel_rfl
 obtain⟨xs,n,_,_,j,M,d⟩:=DataW.trod_struct underlying58 K;rw[hc]at j;match cs,j,xs,M with|y0::y1:: [],_,[x0,x1],_=>obtain⟨J,rfl⟩:=aq4 (v:=y0) (x:=x0) (by simpa[aS,c3] using d 0 _ rfl);obtain⟨f1,rfl⟩:=mG (v:=y1) (x:=x1) (by simpa[aS,cb] using d 1 _ rfl);exact⟨⟨J,f1⟩,rfl⟩
set_option maxRecDepth 100000 in
def Iq{held:Bool}{fuel:Nat}{cs:List Θ}{x:DataW H × List θ}(K:dZ enc aj w base (λ_=>true) held fuel 125 cs=some x): ∃s:En,cs= [.int .i64 s.edge,.int .i64 s.at_]:=by
 have hc:aj.cellsOf 125=2:=by kernel_rfl
 have c3:aj.cellsOf 3=1:=by kernel_rfl
 obtain⟨xs,n,_,_,j,M,d⟩:=DataW.trod_struct underlying125 K;rw[hc]at j;match cs,j,xs,M with|y0::y1:: [],_,[x0,x1],_=>obtain⟨J,rfl⟩:=aq4 (v:=y0) (x:=x0) (by simpa[aS,c3] using d 0 _ rfl);obtain⟨f1,rfl⟩:=aq4 (v:=y1) (x:=x1) (by simpa[aS,c3] using d 1 _ rfl);exact⟨⟨J,f1⟩,rfl⟩
set_option maxRecDepth 100000 in
def Nb{held:Bool}{fuel:Nat}{cs:List Θ}{x:DataW H × List θ}(M:dZ enc aj w base (λ_=>true) held fuel 127 cs=some x): ∃s:Jt,cs=qV.enc s:=by
 have hc:aj.cellsOf 127=4:=by kernel_rfl
 have ce:aj.cellsOf 125=2:=by kernel_rfl
 obtain⟨xs,n,_,_,J,N,j⟩:=DataW.trod_struct underlying127 M;rw[hc]at J;match cs,J,xs,N with|y0::y1::y2::y3:: [],_,[x0,x1],_=>obtain⟨K,d⟩:=Iq (cs:= [y0,y1]) (x:=x0) (by simpa[aS,ce] using j 0 _ rfl);simp only[List.cons.injEq,and_true]at d;obtain⟨rfl,rfl⟩:=d;obtain⟨f1,e1⟩:=Iq (cs:= [y2,y3]) (x:=x1) (by simpa[aS,ce] using j 1 _ rfl);simp only[List.cons.injEq,and_true]at e1;obtain⟨rfl,rfl⟩:=e1;exact⟨⟨K,f1⟩,rfl⟩
set_option maxRecDepth 100000 in
def Vq{held:Bool}{fuel:Nat}{cs:List Θ}{x:DataW H × List θ}(M:dZ enc aj w base (λ_=>true) held fuel 114 cs=some x): ∃s:Bl,cs=qW.enc s:=by
 have hc:aj.cellsOf 114=3:=by kernel_rfl
 have c3:aj.cellsOf 3=1:=by kernel_rfl
 obtain⟨xs,n,_,_,j,N,d⟩:=DataW.trod_struct underlying114 M;rw[hc]at j;match cs,j,xs,N with|y0::y1::y2:: [],_,[x0,x1,x2],_=>obtain⟨J,rfl⟩:=aq4 (v:=y0) (x:=x0) (by simpa[aS,c3] using d 0 _ rfl);obtain⟨f1,rfl⟩:=aq4 (v:=y1) (x:=x1) (by simpa[aS,c3] using d 1 _ rfl);obtain⟨K,rfl⟩:=aq4 (v:=y2) (x:=x2) (by simpa[aS,c3] using d 2 _ rfl);exact⟨⟨J,f1,K⟩,rfl⟩
set_option maxRecDepth 100000 in
def Q5{held:Bool}{fuel:Nat}{cs:List Θ}{x:DataW H × List θ}(K:dZ enc aj w base (λ_=>true) held fuel 60 cs=some x): ∃s:Sc,cs=kW.enc s:=by
 have hc:aj.cellsOf 60=2:=by kernel_rfl
 have c3:aj.cellsOf 3=1:=by kernel_rfl
 obtain⟨xs,n,_,_,j,M,d⟩:=DataW.trod_struct underlying60 K;rw[hc]at j;match cs,j,xs,M with|y0::y1:: [],_,[x0,x1],_=>obtain⟨J,rfl⟩:=aq4 (v:=y0) (x:=x0) (by simpa[aS,c3] using d 0 _ rfl);obtain⟨f1,rfl⟩:=aq4 (v:=y1) (x:=x1) (by simpa[aS,c3] using d 1 _ rfl);exact⟨⟨J,f1⟩,rfl⟩
def Dt{held:Bool}{fuel:Nat}{v:Θ}{x:DataW H × List θ}(d:dZ enc aj w base (λ_=>true) held fuel 39 [v]=some x): ∃(xs:List _) (A:Option δ) (c:Nat),v=.slice A xs.length c/\fE gV w A xs/\xs.length<=c/\c<=μ/\ ∀a∈xs,(λ_=>True) a:=pI gV (λ_=>True) underlying39 (by kernel_rfl) (λ_ _ _ h=>(QZ h).imp λ_ e=>⟨e,trivial⟩) d
def Nc{held:Bool}{fuel:Nat}{v:Θ}{x:DataW H × List θ}(d:dZ enc aj w base (λ_=>true) held fuel 40 [v]=some x): ∃(xs:List _) (A:Option δ) (c:Nat),v=.slice A xs.length c/\fE kW w A xs/\xs.length<=c/\c<=μ/\ ∀a∈xs,(λ_=>True) a:=pI kW (λ_=>True) underlying40 (by kernel_rfl) (λ_ _ _ h=>(Q5 h).imp λ_ e=>⟨e,trivial⟩) d
def LJ{held:Bool}{fuel:Nat}{v:Θ}{x:DataW H × List θ}(d:dZ enc aj w base (λ_=>true) held fuel 23 [v]=some x): ∃(xs:List _) (A:Option δ) (c:Nat),v=.slice A xs.length c/\fE qV w A xs/\xs.length<=c/\c<=μ/\ ∀a∈xs,(λ_=>True) a:=pI qV (λ_=>True) underlying23 (by kernel_rfl) (λ_ _ _ h=>(Nb h).imp λ_ e=>⟨e,trivial⟩) d
def Q7{held:Bool}{fuel:Nat}{v:Θ}{x:DataW H × List θ}(d:dZ enc aj w base (λ_=>true) held fuel 24 [v]=some x): ∃(xs:List _) (A:Option δ) (c:Nat),v=.slice A xs.length c/\fE qW w A xs/\xs.length<=c/\c<=μ/\ ∀a∈xs,(λ_=>True) a:=pI qW (λ_=>True) underlying24 (by kernel_rfl) (λ_ _ _ h=>(Vq h).imp λ_ e=>⟨e,trivial⟩) d
def Q8{held:Bool}{fuel:Nat}{cs:List Θ}{x:DataW H × List θ}(d:dZ enc aj w base spare held fuel 3 cs=some x): ∃n:Int,cs=aq7.enc n:=by obtain⟨n,e,_,_⟩:=DataW.trod_int bG d;exact⟨n,e⟩
def FZ{held:Bool}{fuel:Nat}{v:Θ}{x:DataW H × List θ}(d:dZ enc aj w base (λ_=>true) held fuel 22 [v]=some x): ∃(xs:List _) (A:Option δ) (c:Nat),v=.slice A xs.length c/\fE aq7 w A xs/\xs.length<=c/\c<=μ/\ ∀a∈xs,(λ_=>True) a:=pI aq7 (λ_=>True) underlying22 (by kernel_rfl) (λ_ _ _ h=>(Q8 h).imp λ_ e=>⟨e,trivial⟩) d
set_option maxRecDepth 100000 in
def Nh{held:Bool}{fuel:Nat}{cs:List Θ}{x:DataW H × List θ}(O:dZ enc aj w base (λ_=>true) held fuel 97 cs=some x): ∃s:Rt × Option δ × Nat,cs=zT.enc s/\(fE gV w s.2.1 s.1.path/\s.1.path.length<=s.2.2):=by
 have hc:aj.cellsOf 97=4:=by kernel_rfl
 have c3:aj.cellsOf 3=1:=by kernel_rfl
 have K:aj.cellsOf 39=1:=by kernel_rfl
 obtain⟨xs,n,_,_,j,Q,d⟩:=DataW.trod_struct underlying97 O;rw[hc]at j;match cs,j,xs,Q with|y0::y1::y2::y3:: [],_,[x0,x1,x2,x3],_=>obtain⟨M,rfl⟩:=aq4 (v:=y0) (x:=x0) (by simpa[aS,c3] using d 0 _ rfl);obtain⟨f1,A1,r1,rfl,J,L1,U,V⟩:=Dt (v:=y1) (x:=x1) (by simpa[aS,K] using d 1 _ rfl);obtain⟨N,rfl⟩:=aq4 (v:=y2) (x:=x2) (by simpa[aS,c3] using d 2 _ rfl);obtain⟨f3,rfl⟩:=aq4 (v:=y3) (x:=x3) (by simpa[aS,c3] using d 3 _ rfl);exact⟨(⟨M,f1,N,f3⟩,A1,r1),rfl,J,L1⟩
def LK{held:Bool}{fuel:Nat}{v:Θ}{x:DataW H × List θ}(d:dZ enc aj w base (λ_=>true) held fuel 25 [v]=some x): ∃(xs:List _) (A:Option δ) (c:Nat),v=.slice A xs.length c/\fE zT w A xs/\xs.length<=c/\c<=μ/\ ∀a∈xs,(λs=>fE gV w s.2.1 s.1.path/\s.1.path.length<=s.2.2) a:=pI zT (λs=>fE gV w s.2.1 s.1.path/\s.1.path.length<=s.2.2) underlying25 (by kernel_rfl) (λ_ _ _ h=>Nh h) d
set_option maxRecDepth 100000 in
def Q9{held:Bool}{fuel:Nat}{cs:List Θ}{x:DataW H × List θ}(hf:dZ enc aj w base (λ_=>true) held fuel 27 cs=some x): ∃(t:Tp) (m:jl),cs=m.cells.toList/\TpL w t m/\m.c1<=μ/\m.c2<=μ/\m.c3<=μ/\m.c4<=μ:=by
 have hc:aj.cellsOf 27=4:=by kernel_rfl
 have ci:aj.cellsOf 22=1:=by kernel_rfl
 have cj:aj.cellsOf 23=1:=by kernel_rfl
 have aa:aj.cellsOf 24=1:=by kernel_rfl
 have cr:aj.cellsOf 25=1:=by kernel_rfl
 obtain⟨xs,n,_,_,N,ac,d⟩:=DataW.trod_struct dB hf;rw[hc]at N;match cs,N,xs,ac with|y0::y1::y2::y3:: [],_,[x0,x1,x2,x3],_=>obtain⟨K,O,r0,rfl,R0,Q,V,Q0⟩:=FZ (v:=y0) (x:=x0) (by simpa[aS,ci] using d 0 _ rfl);obtain⟨f1,A1,r1,rfl,R1,L1,Y,Q1⟩:=LJ (v:=y1) (x:=x1) (by simpa[aS,cj] using d 1 _ rfl);obtain⟨M,A2,r2,rfl,R2,L2,Z,Q2⟩:=Q7 (v:=y2) (x:=x2) (by simpa[aS,aa] using d 2 _ rfl);obtain⟨f3,A3,r3,rfl,R3,U,M3,J⟩:=LK (v:=y3) (x:=x3) (by simpa[aS,cr] using d 3 _ rfl);exact⟨⟨K,f1,M,f3.map (λx=>x.1)⟩,⟨O,K.length,r0,A1,f1.length,r1,A2,M.length,r2,A3,f3.length,r3,f3⟩,rfl,⟨⟨R0,R1,R2,R3,rfl,λp j=>(J p j).1⟩,rfl,rfl,rfl,eU _,Q,L1,L2,U,λp j=>(J p j).2⟩,V,Y,Z,M3⟩
set_option maxRecDepth 100000 in
def abe{r:Reach}{b0:Nat}{v:Θ}{d:DataW H}{p:List θ}{held:Bool}(K:Value.okWide aj w r b0 27 v)(h:DataW.Trod enc aj w base (λ_=>true) held 27 v d p): ∃s:Tp × jl,v=.agg s.2.cells/\TpL w s.1 s.2/\s.2.c1<=μ/\s.2.c2<=μ/\s.2.c3<=μ/\s.2.c4<=μ:=by obtain⟨cs,rfl,M⟩:=okWide_struct dB K;obtain⟨fuel,j⟩:=h;obtain⟨t,m,e,J⟩:=Q9 (cs:=cs.toList) (by simpa[aS] using j);exact⟨(t,m),by rw[<-Array.toArray_toList (xs:=cs),e],J⟩
set_option maxRecDepth 100000 in
def Vr{held:Bool}{fuel:Nat}{cs:List Θ}{x:DataW H × List θ}(M:dZ enc aj w base (λ_=>true) held fuel 38 cs=some x): ∃s:Ps,cs= [.int .i64 s.edge,.int .i64 s.at_,.bool s.rev]:=by
 have hc:aj.cellsOf 38=3:=by kernel_rfl
 have c3:aj.cellsOf 3=1:=by kernel_rfl
 have cb:aj.cellsOf 4=1:=by kernel_rfl
 obtain⟨xs,n,_,_,j,N,d⟩:=DataW.trod_struct underlying38 M;rw[hc]at j;match cs,j,xs,N with|y0::y1::y2:: [],_,[x0,x1,x2],_=>obtain⟨J,rfl⟩:=aq4 (v:=y0) (x:=x0) (by simpa[aS,c3] using d 0 _ rfl);obtain⟨f1,rfl⟩:=aq4 (v:=y1) (x:=x1) (by simpa[aS,c3] using d 1 _ rfl);obtain⟨K,rfl⟩:=mG (v:=y2) (x:=x2) (by simpa[aS,cb] using d 2 _ rfl);exact⟨⟨J,f1,K⟩,rfl⟩
set_option maxRecDepth 100000 in
def Nj{held:Bool}{fuel:Nat}{cs:List Θ}{x:DataW H × List θ}(V:dZ enc aj w base (λ_=>true) held fuel 29 cs=some x): ∃s:Rl,cs= [.int .i64 s.ahead,.int .i64 s.behind,.int .i64 s.period,.int .i64 s.most,.int .i64 s.quiet,.int .i64 s.oJ,.int .i64 s.wI,.int .i64 s.skew,.int .i64 s.lend]:=by
 have hc:aj.cellsOf 29=9:=by kernel_rfl
 have c3:aj.cellsOf 3=1:=by kernel_rfl
 obtain⟨xs,n,_,_,j,Y,d⟩:=DataW.trod_struct underlying29 V;rw[hc]at j;match cs,j,xs,Y with|y0::y1::y2::y3::y4::y5::y6::y7::y8:: [],_,[x0,x1,x2,x3,x4,x5,x6,x7,x8],_=>obtain⟨J,rfl⟩:=aq4 (v:=y0) (x:=x0) (by simpa[aS,c3] using d 0 _ rfl);obtain⟨f1,rfl⟩:=aq4 (v:=y1) (x:=x1) (by simpa[aS,c3] using d 1 _ rfl);obtain⟨K,rfl⟩:=aq4 (v:=y2) (x:=x2) (by simpa[aS,c3] using d 2 _ rfl);obtain⟨f3,rfl⟩:=aq4 (v:=y3) (x:=x3) (by simpa[aS,c3] using d 3 _ rfl);obtain⟨M,rfl⟩:=aq4 (v:=y4) (x:=x4) (by simpa[aS,c3] using d 4 _ rfl);obtain⟨N,rfl⟩:=aq4 (v:=y5) (x:=x5) (by simpa[aS,c3] using d 5 _ rfl);obtain⟨O,rfl⟩:=aq4 (v:=y6) (x:=x6) (by simpa[aS,c3] using d 6 _ rfl);obtain⟨Q,rfl⟩:=aq4 (v:=y7) (x:=x7) (by simpa[aS,c3] using d 7 _ rfl);obtain⟨U,rfl⟩:=aq4 (v:=y8) (x:=x8) (by simpa[aS,c3] using d 8 _ rfl);exact⟨{ahead:=J,behind:=f1,period:=K,most:=f3,quiet:=M,oJ:=N,wI:=O,skew:=Q,lend:=U},rfl⟩
set_option maxRecDepth 100000 in
def Nk{held:Bool}{fuel:Nat}{cs:List Θ}{x:DataW H × List θ}(M:dZ enc aj w base (λ_=>true) held fuel 36 cs=some x): ∃s:Int × Int × Int × Bool,cs= [.int .i64 s.1,.int .i64 s.2.1,.int .i64 s.2.2.1,.bool s.2.2.2]:=by
 have hc:aj.cellsOf 36=4:=by kernel_rfl
 have c3:aj.cellsOf 3=1:=by kernel_rfl
 have cb:aj.cellsOf 4=1:=by kernel_rfl
 obtain⟨xs,n,_,_,j,N,d⟩:=DataW.trod_struct underlying36 M;rw[hc]at j;match cs,j,xs,N with|y0::y1::y2::y3:: [],_,[x0,x1,x2,x3],_=>obtain⟨J,rfl⟩:=aq4 (v:=y0) (x:=x0) (by simpa[aS,c3] using d 0 _ rfl);obtain⟨f1,rfl⟩:=aq4 (v:=y1) (x:=x1) (by simpa[aS,c3] using d 1 _ rfl);obtain⟨K,rfl⟩:=aq4 (v:=y2) (x:=x2) (by simpa[aS,c3] using d 2 _ rfl);obtain⟨f3,rfl⟩:=mG (v:=y3) (x:=x3) (by simpa[aS,cb] using d 3 _ rfl);exact⟨(J,f1,K,f3),rfl⟩
set_option maxRecDepth 100000 in
def X4{held:Bool}{fuel:Nat}{cs:List Θ}{x:DataW H × List θ}(Y:dZ enc aj w base (λ_=>true) held fuel 42 cs=some x): ∃s:Ma × DF,cs= [.int .i64 s.1.ref,.bool s.1.rev,.slice s.2.A1 s.2.n1 s.2.c1,.slice s.2.A2 s.2.n2 s.2.c2,.int .i64 s.1.gap]/\MaL w s.1 s.2:=by
 have hc:aj.cellsOf 42=5:=by kernel_rfl
 have c3:aj.cellsOf 3=1:=by kernel_rfl
 have cb:aj.cellsOf 4=1:=by kernel_rfl
 have O:aj.cellsOf 39=1:=by kernel_rfl
 have Q:aj.cellsOf 40=1:=by kernel_rfl
 obtain⟨xs,n,_,_,J,Z,d⟩:=DataW.trod_struct dA Y;rw[hc]at J;match cs,J,xs,Z with|y0::y1::y2::y3::y4:: [],_,[x0,x1,x2,x3,x4],_=>obtain⟨U,rfl⟩:=aq4 (v:=y0) (x:=x0) (by simpa[aS,c3] using d 0 _ rfl);obtain⟨f1,rfl⟩:=mG (v:=y1) (x:=x1) (by simpa[aS,cb] using d 1 _ rfl);obtain⟨j,A2,r2,rfl,M,L2,M2,Q2⟩:=Dt (v:=y2) (x:=x2) (by simpa[aS,O] using d 2 _ rfl);obtain⟨f3,A3,r3,rfl,N,K,M3,Q3⟩:=Nc (v:=y3) (x:=x3) (by simpa[aS,Q] using d 3 _ rfl);obtain⟨V,rfl⟩:=aq4 (v:=y4) (x:=x4) (by simpa[aS,c3] using d 4 _ rfl);exact⟨(⟨U,f1,j,f3,V⟩,⟨A2,j.length,r2,A3,f3.length,r3⟩),rfl,⟨M,N,rfl,rfl,L2,K⟩⟩
set_option maxRecDepth 100000 in
def Rf{held:Bool}{fuel:Nat}{cs:List Θ}{x:DataW H × List θ}(hf:dZ enc aj w base (λ_=>true) held fuel 34 cs=some x): ∃(s t:Int) (q:Zx),cs= [.int .i64 s,.int .i64 t,q32 q.k0,q32 q.k1,q32 q.k2,q32 q.k3,.int .i64 q.state,q32 q.a,q32 q.b,q32 q.j0,q32 q.j1,q32 q.j2,q32 q.j3,q.half,q32 q.a2,q32 q.b2]:=by
 have hc:aj.cellsOf 34=16:=by kernel_rfl
 have c3:aj.cellsOf 3=1:=by kernel_rfl
 have cb:aj.cellsOf 4=1:=by kernel_rfl
 have j:aj.cellsOf 30=1:=by kernel_rfl
 have ck:aj.cellsOf 32=4:=by kernel_rfl
 obtain⟨xs,n,_,_,N,aa,d⟩:=DataW.trod_struct bD hf;rw[hc]at N;match cs,N,xs,aa with|y0::y1::y2::y3::y4::y5::y6::y7::y8::y9::y10::y11::y12::y13::y14::y15:: [],_,[x0,x1,x2,x3,x4,x5,x6,x7,x8,x9],_=>obtain⟨O,rfl⟩:=aq4 (v:=y0) (x:=x0) (by simpa[aS,c3] using d 0 _ rfl);obtain⟨f1,rfl⟩:=aq4 (v:=y1) (x:=x1) (by simpa[aS,c3] using d 1 _ rfl);obtain⟨J,e2⟩:=Ip (cs:= [y2,y3,y4,y5]) (x:=x2) rfl (by simpa[aS,ck] using d 2 _ rfl);simp only[List.cons.injEq,and_true]at e2;obtain⟨rfl,rfl,rfl,rfl⟩:=e2;obtain⟨f3,rfl⟩:=aq4 (v:=y6) (x:=x3) (by simpa[aS,c3] using d 3 _ rfl);obtain⟨Q,rfl⟩:=rV (v:=y7) (x:=x4) (by simpa[aS,j] using d 4 _ rfl);obtain⟨U,rfl⟩:=rV (v:=y8) (x:=x5) (by simpa[aS,j] using d 5 _ rfl);obtain⟨K,M⟩:=Ip (cs:= [y9,y10,y11,y12]) (x:=x6) rfl (by simpa[aS,ck] using d 6 _ rfl);simp only[List.cons.injEq,and_true]at M;obtain⟨rfl,rfl,rfl,rfl⟩:=M;obtain⟨V,rfl⟩:=mG (v:=y13) (x:=x7) (by simpa[aS,cb] using d 7 _ rfl);obtain⟨Y,rfl⟩:=rV (v:=y14) (x:=x8) (by simpa[aS,j] using d 8 _ rfl);obtain⟨Z,rfl⟩:=rV (v:=y15) (x:=x9) (by simpa[aS,j] using d 9 _ rfl);exact⟨O,f1,⟨J.k0,J.k1,J.k2,J.k3,f3,Q,U,K.k0,K.k1,K.k2,K.k3,V,Y,Z⟩,rfl⟩
set_option maxRecDepth 100000 in
def Nl{held:Bool}{fuel:Nat}{cs:List Θ}{x:DataW H × List θ}(hf:dZ enc aj w base (λ_=>true) held fuel 44 cs=some x): ∃s:Tr × kZ,cs=(jf s.1 s.2).toList/\TrL w s.1 s.2:=by
 have hc:aj.cellsOf 44=48:=by kernel_rfl
 have c3:aj.cellsOf 3=1:=by kernel_rfl
 have cb:aj.cellsOf 4=1:=by kernel_rfl
 have aa:aj.cellsOf 30=1:=by kernel_rfl
 have af:aj.cellsOf 29=9:=by kernel_rfl
 have ad:aj.cellsOf 34=16:=by kernel_rfl
 have ag:aj.cellsOf 36=4:=by kernel_rfl
 have ae:aj.cellsOf 38=3:=by kernel_rfl
 have ac:aj.cellsOf 42=5:=by kernel_rfl
 have ci:aj.cellsOf 22=1:=by kernel_rfl
 obtain⟨xs,n,_,_,Q,ap,d⟩:=DataW.trod_struct bg hf;rw[hc]at Q;match cs,Q,xs,ap with|y0::y1::y2::y3::y4::y5::y6::y7::y8::y9::y10::y11::y12::y13::y14::y15::y16::y17::y18::y19::y20::y21::y22::y23::y24::y25::y26::y27::y28::y29::y30::y31::y32::y33::y34::y35::y36::y37::y38::y39::y40::y41::y42::y43::y44::y45::y46::y47:: [],_,[x0,x1,x2,x3,x4,x5,x6,x7,x8,x9,x10,x11,x12,x13,x14,x15],_=>obtain⟨f0,rfl⟩:=aq4 (v:=y0) (x:=x0) (by simpa[aS,c3] using d 0 _ rfl);obtain⟨f1,rfl⟩:=aq4 (v:=y1) (x:=x1) (by simpa[aS,c3] using d 1 _ rfl);obtain⟨f2,e2⟩:=Nj (cs:= [y2,y3,y4,y5,y6,y7,y8,y9,y10]) (x:=x2) (by simpa[aS,af] using d 2 _ rfl);simp only[List.cons.injEq,and_true]at e2;obtain⟨rfl,rfl,rfl,rfl,rfl,rfl,rfl,rfl,rfl⟩:=e2;obtain⟨f3,g3,q3,e3⟩:=Rf (cs:= [y11,y12,y13,y14,y15,y16,y17,y18,y19,y20,y21,y22,y23,y24,y25,y26]) (x:=x3) (by simpa[aS,ad] using d 3 _ rfl);simp only[List.cons.injEq,and_true]at e3;obtain⟨rfl,rfl,rfl,rfl,rfl,rfl,rfl,rfl,rfl,rfl,rfl,rfl,rfl,rfl,rfl,rfl⟩:=e3;obtain⟨f4,rfl⟩:=rV (v:=y27) (x:=x4) (by simpa[aS,aa] using d 4 _ rfl);obtain⟨j,K⟩:=Nk (cs:= [y28,y29,y30,y31]) (x:=x5) (by simpa[aS,ag] using d 5 _ rfl);simp only[List.cons.injEq,and_true]at K;obtain⟨rfl,rfl,rfl,rfl⟩:=K;obtain⟨f6,rfl,aq,an⟩:=QY (v:=y32) (x:=x6) (by simpa[aS,c3] using d 6 _ rfl);obtain⟨f7,rfl⟩:=mG (v:=y33) (x:=x7) (by simpa[aS,cb] using d 7 _ rfl);obtain⟨f8,M⟩:=Vr (cs:= [y34,y35,y36]) (x:=x8) (by simpa[aS,ae] using d 8 _ rfl);simp only[List.cons.injEq,and_true]at M;obtain⟨rfl,rfl,rfl⟩:=M;obtain⟨f9,rfl⟩:=aq4 (v:=y37) (x:=x9) (by simpa[aS,c3] using d 9 _ rfl);obtain⟨ai,rfl⟩:=aq4 (v:=y38) (x:=x10) (by simpa[aS,c3] using d 10 _ rfl);obtain⟨ak,rfl⟩:=mG (v:=y39) (x:=x11) (by simpa[aS,cb] using d 11 _ rfl);obtain⟨N,J,V⟩:=X4 (cs:= [y40,y41,y42,y43,y44]) (x:=x12) (by simpa[aS,ac] using d 12 _ rfl);simp only[List.cons.injEq,and_true]at J;obtain⟨rfl,rfl,rfl,rfl,rfl⟩:=J;obtain⟨al,rfl⟩:=aq4 (v:=y45) (x:=x13) (by simpa[aS,c3] using d 13 _ rfl);obtain⟨am,rfl⟩:=mG (v:=y46) (x:=x14) (by simpa[aS,cb] using d 14 _ rfl);obtain⟨O,U,ar,rfl,Z,Y,au,av⟩:=FZ (v:=y47) (x:=x15) (by simpa[aS,ci] using d 15 _ rfl);exact⟨({id:=f0,len:=f1,rl:=f2,side:=f3,fG:=g3,sl:=j.1,sa:=j.2.1,sb:=j.2.2.1,free:=j.2.2.2,last:=f6,on:=f7,pos:=f8,ref:=f9,past:=ai,rev:=ak,ma:=N.1,at_:=al,held:=am,stops:=O},⟨q3,f4,N.2,U,O.length,ar⟩),rfl,⟨V,Z,rfl,Y,aq,an⟩⟩
set_option maxRecDepth 100000 in
def X5{r:Reach}{b0:Nat}{v:Θ}{d:DataW H}{p:List θ}{held:Bool}(K:Value.okWide aj w r b0 44 v)(h:DataW.Trod enc aj w base (λ_=>true) held 44 v d p): ∃s:Tr × kZ,v=.agg (jf s.1 s.2)/\TrL w s.1 s.2:=by obtain⟨cs,rfl,M⟩:=okWide_struct bg K;obtain⟨fuel,j⟩:=h;obtain⟨s,e,J⟩:=Nl (cs:=cs.toList) (by simpa[aS] using j);exact⟨s,by rw[<-Array.toArray_toList (xs:=cs),e],J⟩
end
end
section
def ahQ (w:ω) (E:Int) (F:Cp) (e:ε) (w':ω):Prop:= ∃s Bq g,e=.returned (.tuple #[.agg (jf s.x s.m),.slice s.Ao s.out.length s.co,.int .i64 E])/\s.plain=F/\w w'/\w.heap.size<=Bq/\Bq<=w'.heap.size/\nH w' Bq s.x s.m/\UA w' Bq g s
def VR(c:Cp)(y:UInt8):(QJ c y).1.out.length<=c.out.length+1:=by
 unfold QJ;split;.exact ϗ _
 .exact Ho _ _
def Vj{t:Tp}{now:Int}{c:Cp}{m:Ms}:(kT t now c m).out.length<=c.out.length+2:=by
 unfold kT;split
 .split;.exact aG yA (Nat.succ_le_succ yA)
  .omega
 split;.rw[Io.2];omega
 split;.refine aG yA ?_;rw[zy.2];omega
 split;.refine aG yA ?_;rw[Ed.2];omega
 split;.exact aG yA (by exact ϗ _)
 split;.exact Nat.le_add_right _ _
 split;.exact Nat.le_succ_of_le (VR _ _)
 .omega
def abB{t:Tp}{now:Int}{c:Cp}{q:P7}:(Bv t now c q).1.out.length<=c.out.length+3:=by
 unfold Bv;split;.exact Nat.le_add_right _ _
 split;.exact Nat.le_add_right _ _
 split;.exact Nat.le_add_right _ _
 split;.exact aG yA (by omega)
 split;.exact Nat.le_add_right _ _
 split;.exact aG yA (Nat.succ_le_succ Vj)
 .exact Nat.le_succ_of_le Vj
def abC{t:Tp}{now:Int}{c:Cp}{b:List UInt8}:(wW t now c b).1.out.length<=c.out.length+3:=by
 unfold wW;split;.exact Nat.le_add_right _ _
 split
 .split;.exact Nat.le_add_right _ _
  .exact Nat.le_succ_of_le (aG yA (Nat.succ_le_succ (Ho _ _)))
 split;.split <;> exact Nat.le_add_right _ _
 split;.exact abB
 .exact Nat.le_add_right _ _
def XZ{now:Int}{c:Cp}{id:Int}{v:List Int}:(Lj now c id v).1.out.length<=c.out.length+1:=by
 unfold Lj;split;.exact ϗ _
 .exact yA
def abD{t:Tp}{now:Int}{c:Cp}{k n:Int}{bs:List UInt8}:(yB t now c k n bs).1.out.length<=c.out.length+3:=by
 unfold yB;split
 .unfold QI;split;.exact Nat.le_add_right _ _
  .exact aG (Ho _ _) (by exact Nat.le_add_right _ 2)
 split;.exact abC
 split;.exact aG XZ (by omega)
 split;.exact aG XZ (by omega)
 split;.exact Nat.le_add_right _ _
 split;.exact aG (VR _ _) (by omega)
 .unfold OA;split <;> exact Nat.le_add_right _ _
def afs(t:Tp)(x:Tr)(q:Zx)(nx:BitVec 32)(k y now:Int)(bs:List UInt8)(Y:bs.length<=2000)(Z:x.stops.length<=60): ∃E F,F.out.length<=100/\ ∀(w:ω) (m:jl) (j:kZ) (A:Option δ) (n c:Nat),jE w t m->Tab w->zJ w x j->j.q=q->j.nx=nx->n=bs.length->aq2 w A c bs->Γ aj 9 #[.agg m.cells,.agg (jf x j),.agg #[.int .i64 k,.int .i64 y,.slice A n c],.int .i64 now] w (ahQ w E F):=by
 obtain⟨K,d,hz⟩: ∃K d,nR=jf K d/\d.v.A1=none/\d.v.c1=0/\d.v.A2=none/\d.v.c2=0/\d.A3=none/\d.c3=0/\K.ma.path= []/\K.ma.fP= []/\K.stops= []/\d.v.n1=0/\d.v.n2=0/\d.n3=0:=⟨⟨0,0,⟨0,0,0,0,0,0,0,0,0⟩,0,0,0,0,0,false,0,false,⟨0,0,false⟩,0,0,false,⟨0,false,[],[],0⟩,0,false,[]⟩,⟨⟨0,0,0,0,0,0,0,0,0,0,0,false,0,0⟩,0,⟨none,0,0,none,0,0⟩,none,0,0⟩,by kernel_rfl,rfl,rfl,rfl,rfl,rfl,rfl,rfl,rfl,rfl,rfl,rfl,rfl⟩;obtain⟨hz,z1,z2,z3,z4,z5,z6,z7,z8,z9,za,zb,zc⟩:=hz;have aa: ∀(er:Int) w e w',LC w er e w'->ahQ w er ⟨K,d.q,d.nx,[]⟩ e w':=λer w e w' J=>by refine⟨⟨K,d,none,0,[]⟩,w'.heap.size,0,by rw[<-hz];exact J.1,rfl,J.2,J.2.size,aW _,?_,UA.nil _ _ _ _ _⟩;exact⟨by rw[z1,z2,z7];exact aq1.nil _ _,by rw[z3,z4,z8];exact aq1.nil _ _,by rw[z5,z6,z9];exact aq1.nil _ _,by rw[z7,za];rfl,by rw[z8,zb];rfl,by rw[z9,zc];rfl,by rw[za];decide,by rw[zb];decide,by rw[zc];decide⟩
 by_cases V:Ee t x k now;.refine⟨1,⟨K,d.q,d.nx,[]⟩,aV 100,?_⟩;intro w m j A n c N M Q U hn O hB;refine(QV N M x j Q k y now bs A n c O hB Y Z).mono ?_;rintro e w'⟨h1,-,-⟩;exact aa 1 w e w' (h1 V)
 .by_cases h0:(yB t now ⟨x,q,nx,[]⟩ k y bs).2=0;.refine⟨0,(yB t now ⟨x,q,nx,[]⟩ k y bs).1,aG abD (show 0+3<=100 by decide),?_⟩;intro w m j A n c N M Q U hn O hB;refine(QV N M x j Q k y now bs A n c O hB Y Z).mono ?_;rintro e w'⟨-,-,h3⟩;rw[U,hn]at h3;obtain⟨s,Bq,g,J,hp,he⟩:=h3 V h0;exact⟨s,Bq,g,he,hp,J.below,J.lo,J.hi,J.tr,J.out⟩
  .refine⟨(yB t now ⟨x,q,nx,[]⟩ k y bs).2,⟨K,d.q,d.nx,[]⟩,aV 100,?_⟩;intro w m j A n c N M Q U hn O hB;refine(QV N M x j Q k y now bs A n c O hB Y Z).mono ?_;rintro e w'⟨-,h2,-⟩;rw[U,hn]at h2;exact aa _ w e w' (h2 V h0)
def asx (B top k:Nat):Prop:=B<=k/\k<top
def nU (W:ω) (B top:Nat) (t:τ) (k:Nat) (A:Option δ) (n:Nat):Prop:=0<n-> ∃g cs,A=some ⟨g,0,none⟩/\asx B top g/\fK W g t cs/\ ∀j,j<n-> ∃v:Int,cs[j*k]? =some (.int .i64 v)
def asw (W:ω) (B top:Nat) (A:Option δ) (n:Nat):Prop:=0<n-> ∃g cs,A=some ⟨g,0,none⟩/\asx B top g/\fK W g 45 cs/\ ∀j,j<n-> ∃Ab nb cb,cs[j]? =some (.slice Ab nb cb)/\(0<nb-> ∃p v,Ab=some ⟨p,0,none⟩/\asx B top p/\p≠g/\W.cell? ⟨p,0,none⟩=some (.int .u8 v)/\W.frozen? ⟨p,0,none⟩=false)
section
variable {W W':ω} {B top k n:Nat} {t:τ} {A:Option δ}
def nU.below(h:nU W B top t k A n)(J:W W'):nU W' B top t k A n:=λj=>by obtain⟨g,cs,e,M,d,K⟩:=h j;exact⟨g,cs,e,M,d.below J d.lt,K⟩
def asw.below(h:asw W B top A n)(d:W W')(U:top<=W.heap.size):asw W' B top A n:=λM=>by obtain⟨g,cs,e,Y,j,V⟩:=h M;refine⟨g,cs,e,Y,j.below d j.lt,λZ O=>?_⟩;obtain⟨Ab,nb,cb,hc,Q⟩:=V Z O;refine⟨Ab,nb,cb,hc,λN=>?_⟩;obtain⟨p,v,e1,e2,e3,e4,K⟩:=Q N;have J:p<W.heap.size:=aU e2.2 U;exact⟨p,v,e1,e2,e3,(d.cell J).trans e4,(World.frozen?_of_block (a:=⟨p,0,none⟩) (d.block p J)).trans K⟩
def nU.set(h:nU W B top t k A n){g:Nat}(e:A=some ⟨g,0,none⟩)(i:Nat)(u:Int):nU (W.setCell ⟨g,i,none⟩ (.int .i64 u)) B top t k A n:=λM=>by
 obtain⟨U,cs,d,Q,O,j⟩:=h M;rw[e]at d;injection d with d;injection d with d;subst d;refine⟨g,_,e,Q,O.iV i _,λK N=>?_⟩;obtain⟨v,j⟩:=j K N;by_cases J:i=K*k;.exact⟨u,by rw[J,Array.getElem?_setIfInBounds,Υ rfl,Υ (dM.1 j).1]⟩
 .exact⟨v,by rw[dR J];exact j⟩
def nU.far(h:nU W B top t k A n){g:Nat}{j:τ}{cs':Array Θ}(N:fK W g j cs')(O:t≠j)(i:Nat)(u:Θ):nU (W.setCell ⟨g,i,none⟩ u) B top t k A n:=λM=>by obtain⟨K,cs,J,U,d,Q⟩:=h M;exact⟨K,cs,J,U,d.far (zn d N O) u,Q⟩
def asw.far(h:asw W B top A n){g:Nat}{J:τ}{cs':Array Θ}(d:fK W g J cs')(Z:45≠J){z:Int}(O:cs'[0]? =some (.int .i64 z))(i:Nat)(u:Θ):asw (W.setCell ⟨g,i,none⟩ u) B top A n:=λhn=>by
 obtain⟨N,cs,K,hz,j,hv⟩:=h hn;refine⟨N,cs,K,hz,j.far (zn j d Z) u,λaa U=>?_⟩;obtain⟨Ab,nb,cb,hc,Y⟩:=hv aa U;refine⟨Ab,nb,cb,hc,λQ=>?_⟩;obtain⟨p,v,e1,e2,e3,e4,M⟩:=Y Q;have V:p≠g:=by rintro rfl;rw[d.cell,O]at e4;cases e4
 exact⟨p,v,e1,e2,e3,(World.cell?_setCell_other _ _ _ _ (λe=>V (by injection e with e;exact e.symm))).trans e4,by rw[World.frozen?_setCell];exact M⟩
def asw.set(h:asw W B top A n){p:Nat}(U:A≠some ⟨p,0,none⟩){v0:Int}(Y:W.cell? ⟨p,0,none⟩=some (.int .u8 v0))(u:Int):asw (W.setCell ⟨p,0,none⟩ (.int .u8 u)) B top A n:=λhn=>by
 obtain⟨M,cs,j,hz,Q,Z⟩:=h hn;refine⟨M,cs,j,hz,Q.far (λe=>U (by rw[j,e])) _,λaa O=>?_⟩;obtain⟨Ab,nb,cb,hc,V⟩:=Z aa O;refine⟨Ab,nb,cb,hc,λN=>?_⟩;obtain⟨d,v,e1,e2,e3,e4,J⟩:=V N;by_cases K:d=p;.subst K;exact⟨d,u,e1,e2,e3,World.cell?_setCell_same _ _ _ Y,by rw[World.frozen?_setCell];exact J⟩
 .exact⟨d,v,e1,e2,e3,(World.cell?_setCell_other _ _ _ _ (λe=>K (by injection e with e;exact e.symm))).trans e4,by rw[World.frozen?_setCell];exact J⟩
def nU.u8(h:nU W B top t k A n){p:Nat}{Q:Int}(K:W.cell? ⟨p,0,none⟩=some (.int .u8 Q))(u:Θ):nU (W.setCell ⟨p,0,none⟩ u) B top t k A n:=λj=>by obtain⟨N,cs,M,O,J,d⟩:=h j;refine⟨N,cs,M,O,J.far (λe=>?_) u,d⟩;obtain⟨v,d⟩:=d 0 j;rw[Nat.zero_mul]at d;subst e;rw[J.cell,d]at K;cases K
def aq1.nums{α:Type}{E:arb α}{c:Nat}{xs:List α}(h:aq1 E t W B A c xs)(f:α->Int)(K: ∀x,(E.enc x)[0]? =some (.int .i64 (f x)))(hn:xs.length=n):nU W B W t E.k A n:=λM=>by obtain⟨g,cur,e,J,d,_⟩:=h.blk (h.some_ (by omega));refine⟨g,cur,e,⟨J,d.lt⟩,d,λj N=>⟨f (xs[j]'(by omega)),?_⟩⟩;obtain⟨b,off,e2,_,hc⟩:=h.rows.get (aI (show j<xs.length by omega));rw[e]at e2;injection e2 with e2;injection e2 with e3 e4;subst e3;subst e4;have:=hc 0 _ (K _);rw[<-d.cell];simpa using this
end
structure YR (w7:ω) (B top:Nat) (m:kZ) (Ao:Option δ) (no:Nat) (W:ω):Prop where
  gr:jV (asx B top) w7 W
  path:nU W B top 58 2 m.v.A1 m.v.n1
  fP:nU W B top 60 2 m.v.A2 m.v.n2
  stops:nU W B top 3 1 m.A3 m.n3
  said:asw W B top Ao no
def abE{W W':ω}{B g:Nat}{s:Cs}(h:nH W B s.x s.m)(N:UA W B g s)(J:W W'):YR W' B W s.m s.Ao s.out.length W':=by refine⟨jV.refl _ _,nU.below (h.path.nums (λx=>x.edge) (λ_=>rfl) h.e1) J,nU.below (h.fP.nums (λx=>x.kL) (λ_=>rfl) h.e2) J,nU.below (h.stops.nums (λx=>x) (λ_=>rfl) h.e3) J,asw.below (λd=>?_) J ig⟩;obtain⟨xs,O,hl,hi⟩:=N.row;obtain⟨g',cur,e,h1,M,_⟩:=O.blk (O.some_ (by omega));refine⟨g',cur,e,⟨h1,M.lt⟩,M,λY hj=>?_⟩;have V:=aI (show Y<xs.length by omega);have N:=aI hj;obtain⟨b,off,e2,_,hc⟩:=O.rows.get V;rw[e]at e2;injection e2 with e2;injection e2 with e3 e4;subst e3;subst e4;have U:=hc 0 _ rfl;rw[M.cell]at U;refine⟨_,_,_,by simpa[Ox] using U,λd=>?_⟩;obtain⟨⟨A',c',e2,hB,hf⟩,hd⟩:=hi Y _ _ V N;injection e2 with Q e6 e7;rw[e6]at d;obtain⟨p,K,p1,p2,p3⟩:=hf d;obtain⟨b',ad,j,_,ac⟩:=hB.at_ (k:=0) d;rw[K]at j;injection j with j;injection j with j aa;subst j;subst aa;exact⟨p,_,Q.trans K,⟨p1,p2⟩,λZ=>hd (by rintro h;rw[h]at d;cases d) _ (Q.trans K) (.inr (.inr (by rw[e,Z];rfl))),ac,p3 0 d⟩
def YR.below{w7 W W':ω}{B top no:Nat}{m:kZ}{Ao:Option δ}(h:YR w7 B top m Ao no W)(d:W W')(j:top<=w7.heap.size):YR w7 B top m Ao no W':=⟨h.gr.trans (jV.of_below d _),h.path.below d,h.fP.below d,h.stops.below d,h.said.below d (aG j h.gr.size)⟩
def LD{B top g:Nat}{w7 W:ω}(h:jV (asx B top) w7 W)(d:asx B top g)(i:Nat)(u:Θ):jV (asx B top) w7 (W.setCell ⟨g,i,none⟩ u):=by have b:=(aH 0 W).setCell (p:=⟨g,i,none⟩) (aV _) u;exact h.trans ⟨b.os,b.tape,b.output,b.size,λk _ hn=>aN W ⟨g,i,none⟩ u k (λe=>hn (by rw[e];exact d))⟩
section
variable {w7 W:ω} {B top no:Nat} {m:kZ} {Ao:Option δ} (h:YR w7 B top m Ao no W)
include h
theorem YR.set1{g:Nat}(e:m.v.A1=some ⟨g,0,none⟩)(K:0<m.v.n1)(i:Nat)(u:Int):YR w7 B top m Ao no (W.setCell ⟨g,i,none⟩ (.int .i64 u)):=by obtain⟨N,cs,d,M,j,J⟩:=h.path K;obtain⟨v,J⟩:=J 0 K;rw[e]at d;injection d with d;injection d with d;subst d;exact⟨LD h.gr M _ _,h.path.set e _ _,h.fP.far j (by decide) _ _,h.stops.far j (by decide) _ _,h.said.far j (by decide) (by simpa using J) _ _⟩
theorem YR.set2{g:Nat}(e:m.v.A2=some ⟨g,0,none⟩)(K:0<m.v.n2)(i:Nat)(u:Int):YR w7 B top m Ao no (W.setCell ⟨g,i,none⟩ (.int .i64 u)):=by obtain⟨N,cs,d,M,j,J⟩:=h.fP K;obtain⟨v,J⟩:=J 0 K;rw[e]at d;injection d with d;injection d with d;subst d;exact⟨LD h.gr M _ _,h.path.far j (by decide) _ _,h.fP.set e _ _,h.stops.far j (by decide) _ _,h.said.far j (by decide) (by simpa using J) _ _⟩
theorem YR.apT{g:Nat}(e:m.A3=some ⟨g,0,none⟩)(K:0<m.n3)(i:Nat)(u:Int):YR w7 B top m Ao no (W.setCell ⟨g,i,none⟩ (.int .i64 u)):=by obtain⟨N,cs,d,M,j,J⟩:=h.stops K;obtain⟨v,J⟩:=J 0 K;rw[e]at d;injection d with d;injection d with d;subst d;exact⟨LD h.gr M _ _,h.path.far j (by decide) _ _,h.fP.far j (by decide) _ _,h.stops.set e _ _,h.said.far j (by decide) (by simpa using J) _ _⟩
theorem YR.asr{g p:Nat}(hA:Ao=some ⟨g,0,none⟩)(j:p≠g)(J:asx B top p){K:Int}(d:W.cell? ⟨p,0,none⟩=some (.int .u8 K))(u:Int):YR w7 B top m Ao no (W.setCell ⟨p,0,none⟩ (.int .u8 u)):=⟨LD h.gr J _ _,h.path.u8 d _,h.fP.u8 d _,h.stops.u8 d _,h.said.set (by rw[hA];intro e;injection e with e;injection e with e;exact j e.symm) d u⟩
end
def OQ{W:ω}{B g:Nat}{s:Cs}(Y:UA W B g s):atq W s.Ao s.out:=λd p j=>by
 obtain⟨xs,Z,hl,hi⟩:=Y.row;have hj:d<s.out.length:=(aX.1 j).1;have J:=aI (show d<xs.length by omega);obtain⟨b,off,e,V,hc⟩:=Z.rows.get J;obtain⟨⟨K,M,e2,hB,_⟩,_⟩:=hi d _ _ J j;injection e2 with N O Q;have U:W.cell? ⟨b,off+d,none⟩=some (.slice (xs[d]'(by omega)).1 (xs[d]'(by omega)).2.1 (xs[d]'(by omega)).2.2):=by simpa[Ox] using hc 0 _ rfl
 exact⟨b,off,K,M,e,V,by rw[U,N,O,Q],hB⟩
end
section
open Go.ChangeShapes Go.WideShapes Go.ChangeAt Go.RowKit Go.Shelf
open Go.ChangeMaps (open_string shut_string)
def ah6 (k y:Int) (bs:List UInt8) (v:Θ) (w:ω):Prop:= ∃A c,v=.agg #[.int .i64 k,.int .i64 y,.slice A bs.length c]/\aq2 w A c bs
def abf{a b c d e:Bool}(h:(a&&b&&c&&d&&e)=true):a=true/\b=true/\c=true/\d=true/\e=true:=by simp only[bM]at h;exact⟨h.1.1.1.1,h.1.1.1.2,h.1.1.2,h.1.2,h.2⟩
def QW(s0:Tp × jl)(s1:Tr × kZ)(v2:Θ)(s2:Int × Int × List UInt8)(now:Int)(cQ: -9223372036854775808<=now)(cR:now<=9223372036854775807)(w:ω)(b0:TpL w s0.1 s0.2/\s0.2.c1<=μ/\s0.2.c2<=μ/\s0.2.c3<=μ/\s0.2.c4<=μ)(b1:TrL w s1.1 s1.2)(b2:ah6 s2.1 s2.2.1 s2.2.2 v2 w)(hL:laidMetH prog [("lineside/vars.widths",Rows.laid_lineside_vars_widths)] w):Γ prog 5 #[.agg s0.2.cells,.agg (jf s1.1 s1.2),v2,.int .i64 now] w λe w'=>e= .returned (.bool true)/\Below w.heap.size w w':=by
 obtain⟨t,m⟩:=s0;obtain⟨x,K⟩:=s1;obtain⟨kd,y,bs⟩:=s2;obtain⟨A,c,rfl,hB⟩:=b2;have IE:=Vk hL;clear hL;simp only at b0 b1 hB |-;obtain⟨hT,_,_,_,bR⟩:=b0;have cN:=hT.q4;have hc:m.n4<=9223372036854775807:=by unfold μ at bR;omega
 clear bR cN;obtain⟨n,hn⟩:=fD bs.length;rw[<-hn];have d:Own w _ [_,_,_]:=Own.start3 w 27 44 48 m.cells (jf x K) #[.int .i64 kd,.int .i64 y,.slice A n c];have ax:=λW (Q:Below w.heap.size w W)=>anJ (hT.below Q) hc x K kd y A n c;clear hc;obtain⟨fw,bi⟩:=fD (xB t m&&decide (K.v.n1<=100)&&decide (K.v.n2<=100)&&decide (K.n3<=40)&&decide (n<=2000));rw[<-bi]at ax;have HN:=ah hn;have HH:=ah bi;have HX:=ah (And.intro hT (And.intro b1 hB));clear hn bi hT b1 hB cQ cR;unfold jl.cells at d ax |-;cases fw with
 |false=>clear HH HX HN;go_enter func5,ntmps5;go_wp2_with(first|((with_reducible first|refine gK d ?_ _ rfl rfl _ dB rfl (by kernel_rfl) ?_|refine iQ d ?_ _ rfl rfl _ bg rfl (iF _ K) ?_|refine mJ d ?_ _ rfl rfl _ underlying48 rfl (by kernel_rfl) ?_);(.first|rfl|(simp[aF,ψ];done)))|(go_at_call 7;(with_reducible refine(Zb _ (IE.below d.below)).mono ?_);rintro e U⟨rfl,V⟩;replace d:=d.grow V)|(go_at_call 8;(with_reducible refine(ax _ d.below).mono ?_);rintro e w2⟨rfl,U⟩;replace d:=d.grow U));go_ret;exact⟨rfl,d.below⟩
 |true=>
  obtain⟨l1,l2,l3,l4,l5⟩:=abf HH.out.symm;simp only[decide_eq_true_eq]at l2 l3 l4 l5;obtain⟨hT,bx,hB⟩:=HX.out;have hI:=hT.is l1;have hX:=bx.is l2 l3 (aG l4 (by decide));have cz:x.stops.length<=40:=by rw[hX.e3];omega
  have bN:bs.length<=2000:=by rw[<-HN.out];exact l5
  obtain⟨E,F,lX,bo⟩:=afs t x K.q K.nx kd y now bs bN (aG cz (by decide));have a9:=λW (Q:Below w.heap.size w W)=>bo W m K A n c (hI.below Q) (IE.below Q) (hX.below Q) rfl rfl HN.out (hB.below Q);have cy:=λW (Q:Below w.heap.size w W) xo (ho:zJ W x xo) hq cK=>bo W m xo A n c (hI.below Q) (IE.below Q) ho hq cK HN.out (hB.below Q);have HS:=ah cy;unfold jl.cells at a9;have a1:=ah (And.intro hX hB);clear HH HX l1 l2 l3 l4 l5 hT bx hB hI hX cz bN bo cy;have hs:=λ(W:ω) (xx:Tr) (mm:kZ)=>tX (P:=aj) W 44 gL (jf xx mm) rfl (lM xx mm);go_enter func5,ntmps5;go_upto_region 6 with(first|((with_reducible first|refine gK d ?_ _ rfl rfl _ dB rfl (by kernel_rfl) ?_|refine iQ d ?_ _ rfl rfl _ bg rfl (iF _ K) ?_|refine mJ d ?_ _ rfl rfl _ underlying48 rfl (by kernel_rfl) ?_);(.first|rfl|(simp[aF,ψ];done)))|(go_at_call 7;(with_reducible refine(Zb _ (IE.below d.below)).mono ?_);rintro e U⟨rfl,V⟩;replace d:=d.grow V)|(go_at_call 8;(with_reducible refine(ax _ d.below).mono ?_);rintro e w2⟨rfl,U⟩;replace d:=d.grow U))
  replace d:=d.alloc 44 (jf x K) w2.heap.size rfl;simp only[bQ,aZ]at d;obtain⟨hX,hB⟩:=a1.out;have cm:=hX.ma.path;have cn:=hX.ma.fP;have ct:=hX.stops;have e1:=hX.ma.e1;have e2:=hX.ma.e2;have e3:=hX.e3;have l1:=hX.ma.l1;have l2:=hX.ma.l2;have l3:=hX.l3;have cT:=Zy x K;have cU:=Wj x K;have cV:=Wn x K;have aw:=d.b1.cell;clear hX hB;go_upto_region 9 with(first|(at_builtin;refine gW RN rfl _ _ rfl (w2.heap.size+1) none 0 [] 0 rfl rfl (aq1.nil _ _) K.v.A1 K.v.c1 x.ma.path K.v.n1 rfl e1 (cm.below d.below) (by omega) (by decide) d.b3.lt ?_;intro A1 c1 w3 ai ca _;replace d:=d.grown ca (λg hg=>by cases hg);replace ai:aq1 gV 58 w3 (w2.heap.size+1) A1 c1 x.ma.path:=ai;rw[aJ];clear ca aw)|((with_reducible refine Zj 42 (.slice A1 K.v.n1 c1) d rfl 39 _ _ rfl rfl rfl (by kernel_rfl) ?_ rfl ?_);(.exact YV x K 42 (by decide));intro wR U fJ iG;replace d:=U;clear U;replace ai:=ai.far (Nat.lt_succ_self _) iG;clear iG fJ;rw[aal]at d;have aw:=d.b1.cell)|(at_builtin;refine gW abI rfl _ _ rfl (w2.heap.size+1) none 0 [] 0 rfl rfl (aq1.nil _ _) K.v.A2 K.v.c2 x.ma.fP K.v.n2 rfl e2 (cn.below d.below) (by omega) (by decide) d.b3.lt ?_;intro A2 c2 w4 ar bk _;replace d:=d.grown bk (λg hg=>by cases hg);replace ai:=ai.off bk (λg _ e=>by cases e);replace ar:aq1 kW 60 w4 (w2.heap.size+1) A2 c2 x.ma.fP:=ar;rw[aJ];clear bk aw)|((with_reducible refine Zj 43 (.slice A2 K.v.n2 c2) d rfl 40 _ _ rfl rfl rfl (by kernel_rfl) ?_ rfl ?_);(.exact YV x _ 43 (by decide));intro wR U fJ iG;replace d:=U;clear U;replace ai:=ai.far (Nat.lt_succ_self _) iG;replace ar:=ar.far (Nat.lt_succ_self _) iG;clear iG fJ;rw[aam x {K with v:={K.v with A1:=A1,c1:=c1}}]at d;have aw:=d.b1.cell)|(at_builtin;refine gW abJ rfl _ _ rfl (w2.heap.size+1) none 0 [] 0 rfl rfl (aq1.nil _ _) K.A3 K.c3 x.stops K.n3 rfl e3 (ct.below d.below) (by omega) (by decide) d.b3.lt ?_;intro A3 c3 w5 az a6 _;replace d:=d.grown a6 (λg hg=>by cases hg);replace ai:=ai.off a6 (λg _ e=>by cases e);replace ar:=ar.off a6 (λg _ e=>by cases e);replace az:aq1 aq7 3 w5 (w2.heap.size+1) A3 c3 x.stops:=az;rw[aJ];clear a6 aw)|((with_reducible refine Zj 47 (.slice A3 K.n3 c3) d rfl 22 _ _ rfl rfl rfl (by kernel_rfl) ?_ rfl ?_);(.exact YV x _ 47 (by decide));intro wR U fJ iG;replace d:=U;clear U;replace ai:=ai.far (Nat.lt_succ_self _) iG;replace ar:=ar.far (Nat.lt_succ_self _) iG;replace az:=az.far (Nat.lt_succ_self _) iG;clear iG fJ;rw[aan x {K with v:=⟨A1,K.v.n1,c1,A2,K.v.n2,c2⟩}]at d;have aw:=d.b2.cell))
  have ch:nH wR (w2.heap.size+1) x ⟨K.q,K.nx,⟨A1,K.v.n1,c1,A2,K.v.n2,c2⟩,A3,K.n3,c3⟩:=⟨ai,ar,az,e1,e2,e3,l1,l2,l3⟩;have HW:=ah (And.intro ch.is e3);have s1:(convert 45 9 (.slice A n c)).run aj wR=.ok (.string (arZ bs)) wR:=by rw[HN.out];exact xZ (a1.out.2.below d.below)
  clear ai ar az ch e1 e2 e3 l1 l2 l3 cm cn ct cT cU cV;have cJ:=ah (And.intro d.below.size (And.intro d.b2.lt d.b3.lt));go_upto_region 11 with(first|((with_reducible first|refine gK d ?_ _ rfl rfl _ dB rfl (by kernel_rfl) ?_|refine iQ d ?_ _ rfl rfl _ bg rfl (iF _ K) ?_|refine mJ d ?_ _ rfl rfl _ underlying48 rfl (by kernel_rfl) ?_);(.first|rfl|(simp[aF,ψ];done)))|(go_at_call 7;(with_reducible refine(Zb _ (IE.below d.below)).mono ?_);rintro e U⟨rfl,V⟩;replace d:=d.grow V)|(go_at_call 8;(with_reducible refine(ax _ d.below).mono ?_);rintro e w2⟨rfl,U⟩;replace d:=d.grow U)|(go_at_call 9;(with_reducible refine(a9 _ d.below).mono ?_);rintro e w6⟨s,Bq,g,rfl,a7,aE,a8,cM,aR,cf⟩;replace d:=d.grow aE;replace d:=d.alloc 44 (jf s.x s.m) w6.heap.size rfl;simp only[bQ,aZ]at d))
  have cA:=abE aR cf ((aH w6.heap.size w6).alloc ig (.cells (jf s.x s.m) 44));have av:=d.b4;have c7:=aR.l1;have da:s.out.length<=100:=by have e:s.plain.out.length<=100:=(by rw[a7];exact lX);exact e
  have c8:=aR.l2;have c9:=aR.l3;have aL:w6.heap.size<=(w6.alloc (.cells (jf s.x s.m) 44)).heap.size:=Nat.le_of_lt av.lt;have cG:=Zy s.x s.m;have cH:=Wj s.x s.m;have cI:=Wn s.x s.m;obtain⟨_,cW⟩:=dM.1 cG;obtain⟨_,cX⟩:=dM.1 cH;obtain⟨_,cY⟩:=dM.1 cI;have HO:=ah (And.intro d (And.intro (aE.trans (((aH w6.heap.size w6).alloc ig (.cells (jf s.x s.m) 44)).mono aE.size)) (And.intro a8 aE.size)));have HF:=ah a9;have HV:=ah hs;have HG:=ah (And.intro ax IE);clear d aE a8 cM aR cf a9 hs ax IE aw s1;generalize cS:w6.alloc (.cells (jf s.x s.m) 44)=w7 at*;clear cS;go_wp2_with fail;go_loopw [16] (λi wr=> ∃J:Nat,i=.int .i64 J/\J<=s.m.v.n1/\YR w7 Bq w6.heap.size s.m s.Ao s.out.length wr) (λi _=>s.m.v.n1-(intOf i).toNat);case atStart=>exact⟨0,rfl,aV _,cA⟩
  case round=>
   clear cA;obtain⟨J,rfl,hj,Z⟩:=hrel;have Np:fK wr w6.heap.size 44 (jf s.x s.m):=(Z.gr.block _ av.lt (λh=>Nat.lt_irrefl _ h.2)).trans av;have a5:=Np.cell;by_cases ad:J<s.m.v.n1
   ·(have f1:decide ((J:Int)<(s.m.v.n1:Int))=true:=by simpa using ad);obtain⟨g1,bb,ak,aD,V,al⟩:=Z.path (by omega);obtain⟨u,hu⟩:=al J ad;have an: ∀W,Below wr.heap.size wr W->W.cell? ⟨g1,J*2,none⟩=some (.int .i64 u):=λW Q=>(Q.cell (p:=⟨g1,J*2,none⟩) V.lt).trans ((V.cell _).trans hu);rw[ak]at cG cW;clear al hu aD;go_wp2_with fail;apply gu (Below (wr).heap.size) (λW=>aq3 gY 1) (λ_ _ _ h1 h2=>h1.trans h2) (vN (wr).heap.size 999) (λ_ _ _ h=>h.1) (λ_ _=>iR _ _ _ _) (λ_ _=>True) (λ_=>trivial) (λ_ _ _ _ _ _ _=>trivial);(case lX=>intro u;simp only[bV,aq9,aP,ay,aA,aB,aT,aJ];with_reducible rfl);(case hm=>kernel_rfl);(case hB=>kernel_rfl);(case hA=>kernel_rfl);case hap=>kernel_rfl
    repeat(first
       |(apply fM.is
         ·
           (intro u w' M ap j
            simp[fO,aC,gI,Is]at j
            refine fC ?_ ?_
            ·
              first
              |rfl
              |(simp[aF,ψ,j];done)
            intro ae N
            have ba:=(Np.below M Np.lt).cell;have m2:=an _ M
            go_wp2_with (fail)
            try simp only[j]at N
            refine N _ _ ?_ rfl
            first |exact iR _ _ _ _ |exact kM M.size hb3 (by decide)))
       |(refine fM.one (pV (wr).heap.size 58 (fY : Array Θ).size) ?_ ?_
         ·
           (intro u w' M ap j
            clear j
            refine fC ?_ ?_
            ·
              first
              |rfl
              |(simp[aF,ψ];done)
            intro ae N
            go_wp2_with fail
            exact N _ _ (kM M.size jm (by decide)) ⟨w'.heap.size,_,rfl,M.size,fK.new w' 58 (fY:Array Θ),rfl⟩))
       |(refine fM.word (CU (wr).heap.size 999 58 fY) ?_ ?_
         ·
           (intro u w' M ap j
            simp[fO,aC,gI,Is]at j
            obtain⟨⟨g,cs,ac,hg,aa,aq⟩,hx⟩:=j
            refine jF ?_ ?_
            ·
              first
              |rfl
              |(simp[aF,ψ];done)
            intro ae N
            have jL: ∀k,k≠g->(w'.setRow g fY).heap[k]? =w'.heap[k]? :=λk M=>ζ w' g k _ M
            exact η 58 _ _ rfl g fY (by first | exact ac | (rw [← ac]; rfl)) (by first | exact hx | exact hx.1 | (rw [← hx.1]; rfl) | (rw [← hx]; rfl)) 58 cs aa (by kernel_rfl) aq (by first | (simp [aK]; done) | exact lM _ _) (N υ _
              ⟨jk gY hg _,λh=>absurd rfl h,λ_=> .inr ⟨g,_,cs,fY,aa,aa.row _,aq.symm,by simp,jL⟩⟩
              ⟨g,by rw[jH u υ (by decide)];exact ac,hg,aa.row _⟩))))
    refine fM.last (qh ?_) ?_;(.simp only[gQ];(repeat(refine⟨?_,?_⟩;.first|exact mM _|exact qH|exact pz (λi hf e=>hf _ rfl ⟨999,.data⟩ (by simp) rfl e.symm)));exact trivial);intro u w2 ag _ j;simp only[gQ]at j;refine⟨rfl,?_⟩;intro ae N;have am:=j 13 _ rfl;have af:=j 11 _ rfl;simp only[gI,Is]at am af;clear j;have m2:=an _ ag;have bj:=(V.below ag V.lt).frozen (J*2);simp only[am,af];clear am af;go_wp2_with fail;go_roundw;(case rel=>exact⟨J+1,by go_num,by omega,(Z.below ag aL).set1 ak (by omega) (J*2) _⟩);case measure=>simp[intOf];omega
   ·(have f1:decide ((J:Int)<(s.m.v.n1:Int))=false:=by simpa using ad);have bA:=Z;go_wp2_with fail;go_loopw [17] (λi wr=> ∃J:Nat,i=.int .i64 J/\J<=s.m.v.n2/\YR w7 Bq w6.heap.size s.m s.Ao s.out.length wr) (λi _=>s.m.v.n2-(intOf i).toNat);(case atStart=>exact⟨0,rfl,aV _,bA⟩);case round=>
     clear bA;obtain⟨J,rfl,hj,Z⟩:=hrel;have Np:fK wr w6.heap.size 44 (jf s.x s.m):=(Z.gr.block _ av.lt (λh=>Nat.lt_irrefl _ h.2)).trans av;have a5:=Np.cell;by_cases ad:J<s.m.v.n2
     ·(have f1:decide ((J:Int)<(s.m.v.n2:Int))=true:=by simpa using ad);obtain⟨g1,bb,ak,aD,V,al⟩:=Z.fP (by omega);obtain⟨u,hu⟩:=al J ad;have an: ∀W,Below wr.heap.size wr W->W.cell? ⟨g1,J*2,none⟩=some (.int .i64 u):=λW Q=>(Q.cell (p:=⟨g1,J*2,none⟩) V.lt).trans ((V.cell _).trans hu);rw[ak]at cH cX;clear al hu aD;go_wp2_with fail;apply gu (Below (wr).heap.size) (λW=>aq3 gY 1) (λ_ _ _ h1 h2=>h1.trans h2) (vN (wr).heap.size 999) (λ_ _ _ h=>h.1) (λ_ _=>iR _ _ _ _) (λ_ _=>True) (λ_=>trivial) (λ_ _ _ _ _ _ _=>trivial);(case lX=>intro u;simp only[bV,aq9,aP,ay,aA,aB,aT,aJ];with_reducible rfl);(case hm=>kernel_rfl);(case hB=>kernel_rfl);(case hA=>kernel_rfl);case hap=>kernel_rfl
      repeat(first
         |(apply fM.is
           ·
             (intro u w' M ap j
              simp[fO,aC,gI,Is]at j
              refine fC ?_ ?_
              ·
                first
                |rfl
                |(simp[aF,ψ,j];done)
              intro ae N
              have ba:=(Np.below M Np.lt).cell;have m2:=an _ M
              go_wp2_with (fail)
              try simp only[j]at N
              refine N _ _ ?_ rfl
              first |exact iR _ _ _ _ |exact kM M.size hb3 (by decide)))
         |(refine fM.one (pV (wr).heap.size 60 (fY : Array Θ).size) ?_ ?_
           ·
             (intro u w' M ap j
              clear j
              refine fC ?_ ?_
              ·
                first
                |rfl
                |(simp[aF,ψ];done)
              intro ae N
              go_wp2_with fail
              exact N _ _ (kM M.size jm (by decide)) ⟨w'.heap.size,_,rfl,M.size,fK.new w' 60 (fY:Array Θ),rfl⟩))
         |(refine fM.word (CU (wr).heap.size 999 60 fY) ?_ ?_
           ·
             (intro u w' M ap j
              simp[fO,aC,gI,Is]at j
              obtain⟨⟨g,cs,ac,hg,aa,aq⟩,hx⟩:=j
              refine jF ?_ ?_
              ·
                first
                |rfl
                |(simp[aF,ψ];done)
              intro ae N
              have jL: ∀k,k≠g->(w'.setRow g fY).heap[k]? =w'.heap[k]? :=λk M=>ζ w' g k _ M
              exact η 60 _ _ rfl g fY (by first | exact ac | (rw [← ac]; rfl)) (by first | exact hx | exact hx.1 | (rw [← hx.1]; rfl) | (rw [← hx]; rfl)) 60 cs aa (by kernel_rfl) aq (by first | (simp [aK]; done) | exact lM _ _) (N υ _
                ⟨jk gY hg _,λh=>absurd rfl h,λ_=> .inr ⟨g,_,cs,fY,aa,aa.row _,aq.symm,by simp,jL⟩⟩
                ⟨g,by rw[jH u υ (by decide)];exact ac,hg,aa.row _⟩))))
      refine fM.last (qh ?_) ?_;(.simp only[gQ];(repeat(refine⟨?_,?_⟩;.first|exact mM _|exact qH|exact pz (λi hf e=>hf _ rfl ⟨999,.data⟩ (by simp) rfl e.symm)));exact trivial);intro u w2 ag _ j;simp only[gQ]at j;refine⟨rfl,?_⟩;intro ae N;have am:=j 13 _ rfl;have af:=j 11 _ rfl;simp only[gI,Is]at am af;clear j;have m2:=an _ ag;have bj:=(V.below ag V.lt).frozen (J*2);simp only[am,af];clear am af;go_wp2_with fail;go_roundw;(case rel=>exact⟨J+1,by go_num,by omega,(Z.below ag aL).set2 ak (by omega) (J*2) _⟩);case measure=>simp[intOf];omega
     ·(have f1:decide ((J:Int)<(s.m.v.n2:Int))=false:=by simpa using ad);have bB:=Z;go_wp2_with fail;go_loopw [18] (λi wr=> ∃J:Nat,i=.int .i64 J/\J<=s.m.n3/\YR w7 Bq w6.heap.size s.m s.Ao s.out.length wr) (λi _=>s.m.n3-(intOf i).toNat);(case atStart=>exact⟨0,rfl,aV _,bB⟩);case round=>
       clear bB;obtain⟨J,rfl,hj,Z⟩:=hrel;have Np:fK wr w6.heap.size 44 (jf s.x s.m):=(Z.gr.block _ av.lt (λh=>Nat.lt_irrefl _ h.2)).trans av;have a5:=Np.cell;by_cases ad:J<s.m.n3
       ·(have f1:decide ((J:Int)<(s.m.n3:Int))=true:=by simpa using ad);obtain⟨g1,bb,ak,aD,V,al⟩:=Z.stops (by omega);obtain⟨u,hu⟩:=al J ad;rw[Nat.mul_one]at hu;have an: ∀W,Below wr.heap.size wr W->W.cell? ⟨g1,J,none⟩=some (.int .i64 u):=λW Q=>(Q.cell (p:=⟨g1,J,none⟩) V.lt).trans ((V.cell _).trans hu);rw[ak]at cI cY;clear al hu aD;go_wp2_with fail;apply gu (Below (wr).heap.size) (λW=>aq3 gY 1) (λ_ _ _ h1 h2=>h1.trans h2) (vN (wr).heap.size 999) (λ_ _ _ h=>h.1) (λ_ _=>iR _ _ _ _) (λ_ _=>True) (λ_=>trivial) (λ_ _ _ _ _ _ _=>trivial);(case lX=>intro u;simp only[bV,aq9,aP,ay,aA,aB,aT,aJ];with_reducible rfl);(case hm=>kernel_rfl);(case hB=>kernel_rfl);(case hA=>kernel_rfl);case hap=>kernel_rfl
        repeat(first
           |(apply fM.is
             ·
               (intro u w' M ap j
                simp[fO,aC,gI,Is]at j
                refine fC ?_ ?_
                ·
                  first
                  |rfl
                  |(simp[aF,ψ,j];done)
                intro ae N
                have ba:=(Np.below M Np.lt).cell;have m2:=an _ M
                go_wp2_with (fail)
                try simp only[j]at N
                refine N _ _ ?_ rfl
                first |exact iR _ _ _ _ |exact kM M.size hb3 (by decide)))
           |(refine fM.one (pV (wr).heap.size 3 (fY : Array Θ).size) ?_ ?_
             ·
               (intro u w' M ap j
                clear j
                refine fC ?_ ?_
                ·
                  first
                  |rfl
                  |(simp[aF,ψ];done)
                intro ae N
                go_wp2_with fail
                exact N _ _ (kM M.size jm (by decide)) ⟨w'.heap.size,_,rfl,M.size,fK.new w' 3 (fY:Array Θ),rfl⟩))
           |(refine fM.word (CU (wr).heap.size 999 3 fY) ?_ ?_
             ·
               (intro u w' M ap j
                simp[fO,aC,gI,Is]at j
                obtain⟨⟨g,cs,ac,hg,aa,aq⟩,hx⟩:=j
                refine jF ?_ ?_
                ·
                  first
                  |rfl
                  |(simp[aF,ψ];done)
                intro ae N
                have jL: ∀k,k≠g->(w'.setRow g fY).heap[k]? =w'.heap[k]? :=λk M=>ζ w' g k _ M
                exact η 3 _ _ rfl g fY (by first | exact ac | (rw [← ac]; rfl)) (by first | exact hx | exact hx.1 | (rw [← hx.1]; rfl) | (rw [← hx]; rfl)) 3 cs aa (by kernel_rfl) aq (by first | (simp [aK]; done) | exact lM _ _) (N υ _
                  ⟨jk gY hg _,λh=>absurd rfl h,λ_=> .inr ⟨g,_,cs,fY,aa,aa.row _,aq.symm,by simp,jL⟩⟩
                  ⟨g,by rw[jH u υ (by decide)];exact ac,hg,aa.row _⟩))))
        refine fM.last (qh ?_) ?_;(.simp only[gQ];(repeat(refine⟨?_,?_⟩;.first|exact mM _|exact qH|exact pz (λi hf e=>hf _ rfl ⟨999,.data⟩ (by simp) rfl e.symm)));exact trivial);intro u w2 ag _ j;simp only[gQ]at j;refine⟨rfl,?_⟩;intro ae N;have am:=j 9 _ rfl;have af:=j 8 _ rfl;simp only[gI,Is]at am af;clear j;have m2:=an _ ag;have bj:=(V.below ag V.lt).frozen (J);simp only[am,af];clear am af;go_wp2_with fail;go_roundw;(case rel=>exact⟨J+1,by go_num,by omega,(Z.below ag aL).apT ak (by omega) (J) _⟩);case measure=>simp[intOf];omega
       ·(have f1:decide ((J:Int)<(s.m.n3:Int))=false:=by simpa using ad);have bE:=Z;go_wp2_with fail;go_loopw [19] (λi wr=> ∃J:Nat,i=.int .i64 J/\J<=s.out.length/\YR w7 Bq w6.heap.size s.m s.Ao s.out.length wr) (λi _=>s.out.length-(intOf i).toNat);(case atStart=>exact⟨0,rfl,aV _,bE⟩);case round=>
         clear bE;obtain⟨J,rfl,hj,Z⟩:=hrel;have Np:fK wr w6.heap.size 44 (jf s.x s.m):=(Z.gr.block _ av.lt (λh=>Nat.lt_irrefl _ h.2)).trans av;have a5:=Np.cell;by_cases ad:J<s.out.length;(case' neg=>have f1:decide ((J:Int)<(s.out.length:Int))=false:=by simpa using ad);case' pos=>
          (have f1:decide ((J:Int)<(s.out.length:Int))=true:=by simpa using ad);obtain⟨g1,bb,ak,aD,V,al⟩:=Z.said (by omega);obtain⟨Ab,nb,cb,bh,cu⟩:=al J ad;have an: ∀W,Below wr.heap.size wr W->W.cell? ⟨g1,J,none⟩=some (.slice Ab nb cb):=λW Q=>(Q.cell (p:=⟨g1,J,none⟩) V.lt).trans ((V.cell _).trans bh);have HJ:=ah (show J+1<=s.out.length from ad);have c6:=an _ gY;rw[ak];by_cases bm:0<nb;case pos=>
           (have f2:decide ((nb:Int)>0)=true:=by simpa using bm);obtain⟨p,v,rfl,cD,ac,bS,bX⟩:=cu bm;have a7:p<wr.heap.size:=aU cD.2 (aG aL Z.gr.size);have bf: ∀W,Below wr.heap.size wr W->W.cell? ⟨p,0,none⟩=some (.int .u8 v)/\W.frozen? ⟨p,0,none⟩=false:=λW Q=>⟨(Q.cell (p:=⟨p,0,none⟩) a7).trans bS,(World.frozen?_of_block (a:=⟨p,0,none⟩) (Q.block p a7)).trans bX⟩;clear al bh bS bX;go_wp2_with fail;apply gu (Below (wr).heap.size) (λW=>aq3 gY 1) (λ_ _ _ h1 h2=>h1.trans h2) (vN (wr).heap.size 999) (λ_ _ _ h=>h.1) (λ_ _=>iR _ _ _ _) (λ_ _=>True) (λ_=>trivial) (λ_ _ _ _ _ _ _=>trivial);(case lX=>intro u;simp only[bV,aq9,aP,ay,aA,aB,aT,aJ];with_reducible rfl);(case hm=>kernel_rfl);(case hB=>kernel_rfl);(case hA=>kernel_rfl);case hap=>kernel_rfl
           repeat(first
              |(apply fM.is
                ·
                  (intro u w' M ap j
                   simp[fO,aC,gI,Is]at j
                   refine fC ?_ ?_
                   ·
                     first
                     |rfl
                     |(simp[aF,ψ,j];done)
                   intro ae N
                   have ba:=(Np.below M Np.lt).cell;have m1:=an _ M;have m2:=(bf _ M).1
                   go_wp2_with (fail)
                   try simp only[j]at N
                   refine N _ _ ?_ rfl
                   first |exact iR _ _ _ _ |exact kM M.size hb3 (by decide)))
              |(refine fM.one (pV (wr).heap.size 45 (fY : Array Θ).size) ?_ ?_
                ·
                  (intro u w' M ap j
                   clear j
                   refine fC ?_ ?_
                   ·
                     first
                     |rfl
                     |(simp[aF,ψ];done)
                   intro ae N
                   go_wp2_with fail
                   exact N _ _ (kM M.size jm (by decide)) ⟨w'.heap.size,_,rfl,M.size,fK.new w' 45 (fY:Array Θ),rfl⟩))
              |(refine fM.word (CU (wr).heap.size 999 45 fY) ?_ ?_
                ·
                  (intro u w' M ap j
                   simp[fO,aC,gI,Is]at j
                   obtain⟨⟨g,cs,ac,hg,aa,aq⟩,hx⟩:=j
                   refine jF ?_ ?_
                   ·
                     first
                     |rfl
                     |(simp[aF,ψ];done)
                   intro ae N
                   have jL: ∀k,k≠g->(w'.setRow g fY).heap[k]? =w'.heap[k]? :=λk M=>ζ w' g k _ M
                   exact η 45 _ _ rfl g fY (by first | exact ac | (rw [← ac]; rfl)) (by first | exact hx | exact hx.1 | (rw [← hx.1]; rfl) | (rw [← hx]; rfl)) 45 cs aa (by kernel_rfl) aq (by first | (simp [aK]; done) | exact lM _ _) (N υ _
                     ⟨jk gY hg _,λh=>absurd rfl h,λ_=> .inr ⟨g,_,cs,fY,aa,aa.row _,aq.symm,by simp,jL⟩⟩
                     ⟨g,by rw[jH u υ (by decide)];exact ac,hg,aa.row _⟩))))
           refine fM.last (qh ?_) ?_;(.simp only[gQ];(repeat(refine⟨?_,?_⟩;.first|exact mM _|exact qH|exact pz (λi hf e=>hf _ rfl ⟨999,.data⟩ (by simp) rfl e.symm)));exact trivial);intro u w2 ag _ j;simp only[gQ]at j;refine⟨rfl,?_⟩;intro ae N;have af:=j 11 _ rfl;have bc:=j 10 _ rfl;simp only[gI,Is]at af bc;clear j;have m2:=(bf _ ag).1;have bj:=(bf _ ag).2;simp only[af,bc];clear af bc;go_wp2_with fail;go_roundw;(case rel=>have h4:=(Z.below ag aL).asr ak ac cD m2 ((v+1) % 256);rw[ak]at h4;exact⟨J+1,by go_num,HJ.out,h4⟩);case measure=>have:=HJ.out;simp[intOf];omega
          (have f2:decide ((nb:Int)>0)=false:=by simpa using bm);clear al cu bh
         go_upto_region 27 with fail;all_goals(obtain⟨d,bL,a8,c5⟩:=HO.out;obtain⟨z0,z2,z3⟩:=cJ.out;have O:=d.ji Z.gr (λx hx hz=>by have h1:=hz.1;have h2:=hz.2;simp only[bJ,dH,or_false]at hx;rcases hx with rfl |rfl |rfl |rfl |rfl <;> simp only at h1 h2 <;> omega) (λk M=>by have:=M.1;omega);have au:=bL.trans (Z.gr.below bL.size (λk M=>aG a8 M.1));have cP:=atb x K _ _ (a1.out.1.below O.below) (HW.out.1.below au) rfl rfl;have hF:=HF.out;clear Z Np a5 d;(go_upto_region 28 with(first|((with_reducible first|refine iQ O ?_ _ rfl rfl _ bg rfl (iF _ K) ?_|refine VN O ?_ _ rfl rfl _ bg rfl (iF _ _) ?_);(.first|rfl|(simp[aF,ψ];done)))|(go_at_call 10;(with_reducible refine cP.mono ?_);rintro e U⟨rfl,fJ⟩;replace O:=O.grow fJ;replace au:=au.trans (fJ.mono au.size))));have hs:=HV.out;have hG:=HS.out;have cd:=HW.out.1;unfold jl.cells at hG;(go_upto_region 30 with(first|((with_reducible first|refine gK O ?_ _ rfl rfl _ dB rfl (by kernel_rfl) ?_|refine iQ O ?_ _ rfl rfl _ bg rfl (iF _ K) ?_|refine mJ O ?_ _ rfl rfl _ underlying48 rfl (by kernel_rfl) ?_|refine VN O ?_ _ rfl rfl _ bg rfl (iF _ _) ?_);(.first|rfl|(simp[aF,ψ];done)))|(go_at_call 9;(with_reducible refine(hF _ O.below).mono ?_);rintro e wz⟨sz,U,fJ,rfl,bn,iG,-,-,cC,ci⟩;replace O:=O.grow iG;replace O:=O.alloc 44 (jf sz.x sz.m) wz.heap.size rfl;simp only[bQ,aZ]at O;replace au:=au.trans ((iG.trans (((aH wz.heap.size wz).alloc ig (.cells (jf sz.x sz.m) 44)).mono iG.size)).mono au.size);have bw:=hG _ O.below ⟨K.q,K.nx,⟨A1,K.v.n1,c1,A2,K.v.n2,c2⟩,A3,K.n3,c3⟩ (cd.below au) rfl rfl;clear hF)|(go_at_call 9;(with_reducible refine bw.mono ?_);rintro e wv⟨Y,U,fJ,rfl,cw,bd,-,-,cB,cg⟩;replace O:=O.grow bd;replace O:=O.alloc 44 (jf Y.x Y.m) wv.heap.size rfl;simp only[bQ,aZ]at O;have cF:=cC.is.below ((((aH wz.heap.size wz).alloc ig (.cells (jf sz.x sz.m) 44))).trans (bd.mono (by simp))))));have aM:=bn.trans cw.symm;have ex:sz.x=Y.x:=ξ Cp.x aM;have eq:sz.m.q=Y.m.q:=ξ Cp.q aM;have en:sz.m.nx=Y.m.nx:=ξ Cp.nx aM;have eo:sz.out=Y.out:=ξ Cp.out aM;(have ol:sz.out.length<=100:=by have e:sz.plain.out.length<=100:=(by rw[bn];exact lX);exact e);have a4:Below wv.heap.size wv (wv.alloc (.cells (jf Y.x Y.m) 44)):=(aH wv.heap.size wv).alloc ig _;have cE:Below wz.heap.size wz wv:=((aH wz.heap.size wz).alloc ig (.cells (jf sz.x sz.m) 44)).trans (bd.mono (by simp));have bq:=((OQ ci).grow cE).grow a4;have cx:=(OQ cg).grow a4;have bu:=atb sz.x sz.m Y.m _ (cF.below a4) (by rw[ex];exact cB.is.below a4) eq.symm en.symm;(have e2:jf sz.x Y.m=jf Y.x Y.m:=by rw[ex]);rw[e2]at bu;have cc:=λW (Q:Below (wv.alloc (.cells (jf Y.x Y.m) 44)).heap.size (wv.alloc (.cells (jf Y.x Y.m) 44)) W)=>atm sz.out sz.Ao Y.Ao sz.out.length sz.co Y.co W rfl (bq.grow Q) (by rw[eo];exact cx.grow Q) (aG ol (by decide));(have e3:(Value.slice Y.Ao sz.out.length Y.co)=.slice Y.Ao Y.out.length Y.co:=by rw[eo]);simp only[e3]at cc;have lW:=O.tail.tail.tail;clear aM ex eq en eo ol e2 e3 bq cx cE cF cC cB ci cg bn cw bw hG cd au;(go_upto_region 32 with(first|((with_reducible first|refine mJ lW ?_ _ rfl rfl _ bg rfl (iF _ _) ?_|refine VN lW ?_ _ rfl rfl _ bg rfl (iF _ _) ?_);(.first|rfl|(simp[aF,ψ];done)))|(go_at_call 10;(with_reducible refine bu.mono ?_);rintro e U⟨rfl,bO⟩;replace O:=O.grow bO)|(go_at_call 11;(with_reducible refine(cc _ bO).mono ?_);rintro e wy⟨rfl,U⟩;replace O:=O.grow U)));(have s2:(convert 45 9 (.slice A n c)).run aj wy=.ok (.string (arZ bs)) wy:=by rw[HN.out];exact xZ (a1.out.2.below O.below));have aw:=O.b2.cell;go_wp2_with fail;go_ret;exact⟨rfl,O.below⟩)
end
end Go.Proofs.YthnmgjngniciaaaGreatDoor
