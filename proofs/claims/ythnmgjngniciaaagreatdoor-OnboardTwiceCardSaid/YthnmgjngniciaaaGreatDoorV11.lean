/- Parts. -/
import Derived.Test.YthnmgjngniciaaaGreatDoorRows
import Derived.MakeChecks
import Derived.OpenShut
import Derived.Test.YthnmgjngniciaaaGreatDoorV10
import Derived.ProofKit
import Derived.Lib.SmallJoins
import Derived.ShutString
import Derived.ChangeOld
import Derived.Deep.Slices
import Derived.Stop.Joined
import Derived.SevenTiedAt
set_option linter.all false
set_option maxHeartbeats 16000000
set_option maxRecDepth 8000
open Array renaming getElem?_eq_none->dI
open Bool renaming and_eq_true->bM
open List renaming cons_append->bQ,getD_eq_getElem?_getD->bH,getElem?_eq_getElem->aI,getElem?_eq_none->dQ,getElem?_map->bW,getElem?_take_of_lt->dG,length_map->eU,length_take->dX,nil_append->aZ
open Nat renaming le_refl->aW,le_succ->ϗ,le_trans->aG,lt_or_ge->eu,zero_add->aJ,zero_le->aV
open Option renaming getD_some->eG,map_some->eF
open Option.some renaming injEq->aO
namespace Go.Proofs.YthnmgjngniciaaaGreatDoor
open Go renaming Addr->δ,Calls->Γ,Ending->ε,MemPlace->θ,TypeId->τ,Value->Θ,World->ω,maxLen->μ,yielded->ψ
open Go.RowKit Go.Shelf Go.Proofs.Tryz
open DataW renaming trod->dZ
open Go.Lib renaming hid->ah
open Region renaming wanted->aF
open Go.Proofs.Tryz renaming prog->aj,underlying27->dB,underlying3->bG,underlying34->bD,underlying4->dL,underlying42->dA,underlying44->bg,underlying45->dW
open Value renaming cells->aS
variable{c:Cp}{now:Int}{m:Ms}{t:Tp}{w:ω}
theorem Vk(h:laidMetH prog [("lineside/vars.widths",Rows.laid_lineside_vars_widths)] w):Tab w:=by
 rw[MakeChecks.laidMetH_plain _ _ _ (by kernel_rfl)] at h;obtain⟨ps,⟨g,t,cs,fuel,p,q,M,ht,Q,Z,_,_⟩,_,_⟩:=h;obtain rfl:=Option.some.inj ((show Tryz.prog.globalNamed "lineside/vars.widths" =some 0 by kernel_rfl).symm.trans M);obtain rfl:=Option.some.inj ((show(Tryz.prog.globals[0]?).map (·.type)=some 297 by kernel_rfl).symm.trans ht);obtain⟨xs,m,_,V,_,hl,aa⟩:=DataW.trod_array underlying297 Z;have U:Tryz.prog.cellsOf 3=1:=by kernel_rfl
 have e3:(xs.map (·.1))=oh.map λn=>(DataW.lit (.int .i64 n):DataW Unit):=(DataW.agg.inj (Prod.mk.inj V).1).symm;have N:xs.length=oh.length:=by simpa using ξ List.length e3
 have ad:0<w.heap.size:=by
  have K:=Q;unfold World.var? at K;rw[M]at K;simp only[Option.bind_some]at K;rcases eu 0 w.heap.size with h |h;.exact h
  .rw[dI h]at K;cases K
 refine λ_=>⟨0,0,rfl,ad,λr u J=>?_⟩;have ac:aq7.flat oh=oh.map λn=> .int .i64 n:=rfl;rw[ac,bW]at J;have j:r<oh.length:=by
  rcases eu r oh.length with h |h;.exact h
  .rw[dQ h]at J;cases J
 have O:=aa r (by rw[<-hl,N];exact j);rw[U,Nat.mul_one,aI (by rw[N];exact j)]at O;obtain⟨z,e1,e2,_⟩:=DataW.trod_int bG O;have e4:=ξ (λl=>l[r]?) e3;simp only[bW,aI j,aI (show r<xs.length by rw[N];exact j),e2,eF,aO,DataW.lit.injEq,Lit.int.injEq,true_and]at e4;rw[aI j,<-e4]at J;rw[aJ,World.var?_cell M Q r,<-J];have Y:((cs.toList.drop r).take 1)[0]? =some (.int .i64 z):=by rw[e1];rfl
 simpa using Y
theorem anJ{m:jl}(h:TpL w t m)(hc:m.n4<=9223372036854775807)(x:Tr)(j:kZ)(k y:Int)(A:Option δ)(n c:Nat):Γ aj 8 #[m.cells,jf x j,.agg #[k,y,.slice A n c]] w λe w'=>e=.returned (.bool (xB t m&&decide (j.v.n1<=100)&&decide (j.v.n2<=100)&&decide (j.n3<=40)&&decide (n<=2000)))/\w w':=by
 have J:Own w _ [_,_,_]:=Own.start3 w 27 44 48 m.cells (jf x j) #[k,y,.slice A n c];have Y:=J.b0.cell;have aa:=J.b1.cell;have K:=λW (O:w W)=>aa6 (h.below O) hc x.ma j.v;generalize (xB t m&&decide (j.v.n1<=100)&&decide (j.v.n2<=100))=lt at*;have ac:=acf x j;have ad:=acg x j;have ae:=Zy x j;have af:=Wj x j;have ag:=ach x j;have ai:=Wn x j;unfold nO at K;unfold jl.cells at*;have f1:decide ((j.n3:Int)<=40)=decide (j.n3<=40):=by rw[decide_eq_decide];omega
 have U:decide ((n:Int)<=2000)=decide (n<=2000):=by rw[decide_eq_decide];omega
 generalize decide (j.n3<=40)=M at*;generalize decide (n<=2000)=N at*
 cases lt <;> cases M <;> cases N <;> (
   go_enter func8,ntmps8
   go_wp2_with (first
     |((with_reducible refine(K _ J.below).mono ?_);rintro e w1⟨rfl,Q⟩;replace J:=J.grow Q;have Z:=J.b1.cell;have V:=J.b2.cell))
   go_ret
   exact⟨rfl,J.below⟩)
def ahP: ∃x m,nR=jf x m:=⟨⟨0,0,⟨0,0,0,0,0,0,0,0,0⟩,0,0,0,0,0,false,0,false,⟨0,0,false⟩,0,0,false,⟨0,false,[],[],0⟩,0,false,[]⟩,⟨⟨0,0,0,0,0,0,0,0,0,0,0,false,0,0⟩,0,⟨none,0,0,none,0,0⟩,none,0,0⟩,by kernel_rfl⟩
def asO(c:Cp)(q:P7): ∃o,nM c q=⟨c.x,c.q,c.nx,o⟩/\o.length<=c.out.length+1:=by
 unfold nM;split;.exact⟨_,rfl,by simp⟩
 .exact⟨c.out,rfl,by omega⟩
theorem asJ(now:Int)(c:Cp)(id:Int)(v:List Int): ∃l o,(nY now c id v).1=⟨{c.x with last:=l},c.q,c.nx,o⟩/\o.length<=c.out.length+1:=by
 unfold nY;split;.exact⟨_,_,rfl,by omega⟩
 .split;.exact⟨_,_,rfl,by omega⟩
  .split;(.exact⟨_,_,rfl,by omega⟩);.split;(.exact⟨_,_,rfl,by omega⟩);.obtain⟨o,h,j⟩:=asO (c.setLast (Z5 c.x.last now)) (yh c.peer (by assumption));exact⟨_,o,h,j⟩
def atp (c d:Cp):Prop:=d.x.sl=c.x.sl/\d.x.sa=c.x.sa/\d.x.sb=c.x.sb/\d.x.free=c.x.free/\(d.peer=c.peer\/d.peer.state≠2)/\d.x.stops.length<=c.x.stops.length+1
def atp.say{d:Cp}(h:atp c d)(now id:Int)(v:List Int):atp c (nY now d id v).1:=by obtain⟨l,o,e,_⟩:=asJ now d id v;rw[e];exact h
def atp.refl(c:Cp):atp c c:=⟨rfl,rfl,rfl,rfl,.inl rfl,by omega⟩
def as2{p:gG}{q:P7}{k:Int}(h:p.state≠2):jw p q k≠0:=by
 unfold jw;split;.decide
 .first|decide|(rw[Υ h];decide)
def atf(c:Cp)(y:UInt8):atp c (QJ c y).1:=by
 unfold QJ;split;.exact atp.refl c
 .rename_i h;obtain⟨o,e,_⟩:=asO ((c.ou (arV c.peer)).su false) (MQ c.peer y);rw[e];refine⟨rfl,rfl,rfl,rfl,.inr ?_,ϗ _⟩;show(arV c.peer).state≠2;unfold arV;rw[Υ (Decidable.not_not.1 h)];show(0:Int)≠2;decide
def atc:atp c (FQ t now c m):=by
 unfold FQ;repeat' split
 all_goals exact⟨rfl,rfl,rfl,rfl,.inl rfl,by simp[Cp.kP,Cp.setAt,Cp.wU]⟩
def as5:atp c (oW t c m).1:=by
 unfold oW;repeat' split
 all_goals exact⟨rfl,rfl,rfl,rfl,.inl rfl,by simp[Cp.kP]⟩
def atg:atp c (Bo t c m).1:=by
 unfold Bo;repeat' split
 all_goals exact⟨rfl,rfl,rfl,rfl,.inl rfl,by simp[Cp.kP,Cp.rQ,pJ]⟩
def ath(l:List Int)(n:Int):(XJ l n).length<=l.length+1:=by
 unfold XJ;split;.omega
 .simp[dX,List.length_drop];omega
def asK(t:Tp)(now:Int)(c:Cp)(m:Ms):atp c (kT t now c m):=by
 unfold kT;split
 .split;.exact atp.say (atp.say (c:=c) (d:=c.su true) ⟨rfl,rfl,rfl,rfl,.inl rfl,by simp[Cp.su]⟩ _ _ _) _ _ _
  .exact atp.refl c
 .split;.exact atc
  .split;(.exact atp.say as5 _ _ _);.split;(.exact atp.say atg _ _ _);.split;(.exact atp.say (c:=c) (d:=(c.lT (XJ c.x.stops (m.v.headD 0))).rQ (pJ (c.lT (XJ c.x.stops (m.v.headD 0))).x)) ⟨rfl,rfl,rfl,rfl,.inl rfl,ath _ _⟩ _ _ _);.split;(.exact⟨rfl,rfl,rfl,rfl,.inl rfl,aG (List.length_filter_le _ _) (ϗ _)⟩);.split;(.exact atf c 0);.exact atp.refl c
def as6{a b t:Int}:Dl t a b false t now≠0:=by
 unfold Dl adH;split;.rw[Ξ (by simp;intros;omega)];decide
 .decide
theorem as7{t:Tp}{now:Int}{c:Cp}{b:List UInt8}(h:(wW t now c b).2=0){F d:Cp}(hF:F=(wW t now c b).1)(K:d=⟨F.x,F.q,F.nx,[]⟩):(wW t now d b).2≠0\/ ∃l o,(wW t now d b).1=⟨{F.x with last:=l},F.q,F.nx,o⟩/\o.length<=1:=by
 have Y:d.peer=F.peer:=by rw[K];rfl
 unfold wW at h hF |-;cases Z:vY b with
 |none=>rw[Z]at h;cases h
 |some q=>
  rw[Z]at h hF;simp only at h hF |-;by_cases k2:q.kind=2;.rw[Υ k2]at h hF |-;refine .inl ?_;by_cases j:iT c.peer q=0;(.rw[Ξ (not_not_intro j)]at hF;(have J:d.peer.state=2:=by rw[Y,hF];obtain⟨o,e,_⟩:=asO ((c.ou (wu c.peer q)).su false) (rP c.peer q);rw[e];obtain⟨l,N,e2,_⟩:=asJ now (⟨((c.ou (wu c.peer q)).su false).x,((c.ou (wu c.peer q)).su false).q,((c.ou (wu c.peer q)).su false).nx,o⟩:Cp) 155 [];rw[e2];show(wu c.peer q).state=2;unfold wu;rw[Υ j];rfl);(have M:iT d.peer q≠0:=by unfold iT;split;decide;.rw[Υ (by rw[J];decide)];decide);rw[Υ M];exact M);.rw[Υ j]at h;exact absurd h j
  .rw[Ξ k2]at h hF |-;by_cases k6:q.kind=6;(.rw[Υ k6]at h hF |-;refine .inl ?_;by_cases j:jw c.peer q 6=0;(.rw[Ξ (not_not_intro j)]at hF;(have J:d.peer.state≠2:=by rw[Y,hF];show(GY c.peer q).state≠2;unfold GY;rw[Υ j];show(0:Int)≠2;decide);have M:jw d.peer q 6≠0:=as2 J;rw[Υ M];exact M);.rw[Υ j]at h;exact absurd h j);.rw[Ξ k6]at h hF |-;by_cases k5:q.kind=5;(.rw[Υ k5]at h hF |-;unfold Bv at h hF |-;by_cases j:jw c.peer q 5=0;(.rw[Ξ (not_not_intro j)]at h hF;by_cases J:jw d.peer q 5=0;(.rw[Ξ (not_not_intro J)];cases hm:arN q.body with|error e=>rw[hm]at hF;simp only at hF |-;subst hF;subst K;exact .inr ⟨F.x.last,[],rfl,aV _⟩|ok m=>rw[hm]at h hF;simp only at h hF |-;by_cases hu:PW m.id=true;(.rw[Υ hu]at h;cases h);.rw[Ξ hu]at h hF |-;by_cases Q:Dl c.x.sl c.x.sa c.x.sb c.x.free m.t (now*8)=110/\m.ack=1/\m.t=c.x.sl;(.rw[Υ Q]at hF;obtain⟨l,o,e,_⟩:=asJ now c 146 [m.t];have ac:F=⟨{c.x with last:=l},c.q,c.nx,o⟩:=hF.trans e;subst ac;subst K;rw[Υ Q];obtain⟨l2,N,e2,O⟩:=asJ now ⟨{c.x with last:=l},c.q,c.nx,[]⟩ 146 [m.t];exact .inr ⟨l2,N,e2,O⟩);.rw[Ξ Q]at h hF;by_cases U:Dl c.x.sl c.x.sa c.x.sb c.x.free m.t (now*8)≠0;(.rw[Υ U]at h;exact absurd h U);.rw[Ξ U]at hF;(have hk:atp (c.nV m.t c.x.sa c.x.sb false) F:=by rw[hF];show atp _ (if m.ack=1 then _ else _);split;(.exact atp.say (asK t now _ m) _ _ _);.exact asK t now _ m);obtain⟨k1,k2,k3,k4,_,_⟩:=hk;(have hx:d.x=F.x:=by rw[K]);(have aa:Dl d.x.sl d.x.sa d.x.sb d.x.free m.t (now*8)≠0:=by rw[hx,k1,k4];exact as6);by_cases V:Dl d.x.sl d.x.sa d.x.sb d.x.free m.t (now*8)=110/\m.ack=1/\m.t=d.x.sl;(.rw[Υ V];obtain⟨l2,N,e2,O⟩:=asJ now d 146 [m.t];subst K;exact .inr ⟨l2,N,e2,O⟩);.rw[Ξ V,Υ aa];exact .inl aa);.rw[Υ J];exact .inl J);.rw[Υ j]at h;exact absurd h j);.rw[Ξ k5]at h;cases h
def asL(now:Int)(c:Cp)(id:Int)(v:List Int):(nY now c id v).1.x.stops=c.x.stops:=by obtain⟨l,o,e,_⟩:=asJ now c id v;rw[e]
theorem as8(t:Tp)(now:Int)(c:Cp)(b:List UInt8):(wW t now c b).1.x.stops.length<=c.x.stops.length+1:=by
 unfold wW;split;.exact ϗ _
 .rename_i q _;split;.split;(.exact ϗ _);.show(nY now _ 155 []).1.x.stops.length<=_;rw[asL];obtain⟨o,e,_⟩:=asO ((c.ou (wu c.peer q)).su false) (rP c.peer q);rw[e];exact ϗ _
  .split;(.split <;> exact ϗ _);.split;(.unfold Bv;split;(.exact ϗ _);.split;(.exact ϗ _);.rename_i m _;split;(.exact ϗ _);.split;(.show(nY now c 146 [m.t]).1.x.stops.length<=_;rw[asL];exact ϗ _);.split;(.exact ϗ _);.have j:=asK t now (c.nV m.t c.x.sa c.x.sb false) m;show(if m.ack=1 then UM now _ m else _:Cp).x.stops.length<=_;split;(.show(nY now _ 146 [m.t]).1.x.stops.length<=_;rw[asL];exact j.2.2.2.2.2);.exact j.2.2.2.2.2);.exact ϗ _
section
open Go.ChangeShapes Go.WideShapes Go.ChangeAt Go.RowKit
open Go.ChangeMaps (open_string shut_string)
def own:ownKnob aj.godebug=none:=by kernel_rfl
def arG:laidOutB aj=true:=by kernel_rfl
section
variable {H:Type} {enc:τ × Θ->H} {w:ω} {base:Nat} {spare:Nat->Bool} {held:Bool}
def rV{fuel:Nat}{v:Θ}{x:DataW H × List θ}(h:dZ enc aj w base spare held fuel 30 [v]=some x): ∃a:BitVec 32,v=q32 a:=by
 obtain⟨n,e,_,J⟩:=DataW.trod_int underlying30 h;obtain rfl:v=.int .u32 n:=by simpa using e
 have j:=bounds_u32 J;exact⟨_,Ze n j.1 (by omega)⟩
end
end
section
open Go.ChangeShapes Go.WideShapes Go.ChangeAt Go.RowKit Go.Deep
def ar4{w:ω}{a:δ}{v:Θ}(h:w.cell? a=some v):a.block<w.heap.size:=by
 rcases eu a.block w with j |j;.exact j
 .simp[World.cell?,dI j]at h
section
variable {H:Type} {enc:τ × Θ->H} {w:ω} {base:Nat} {spare:Nat->Bool}
def aiF(n:Int)(h:(Lit.int .u8 n).wf=true):Value.int .u8 n=q8 (UInt8.ofNat n.toNat):=by have j:=bounds_u8 h;unfold q8;congr 1;simp only[UInt8.toNat_ofNat'];omega
set_option maxRecDepth 100000 in
theorem ar1{r:Reach}{b0:Nat}{v:Θ}{d:DataW H}{p:List θ}{held:Bool}(hv:Value.okWide aj w r b0 45 v)(h:DataW.Trod enc aj w base (λ_=>true) held 45 v d p): ∃bs,jG bs v w:=by
 obtain⟨A,n,c,rfl⟩:=okWide_slice dW hv;obtain⟨fuel,Z⟩:=h;have Y:aj.cellsOf 5=1:=by kernel_rfl
 rcases open_ints dW underlying5 Y Z with⟨J,hx⟩ |⟨a,af,ae,O,J,_,hl,hm,hz,hx,Q,ac⟩;.simp[aS]at J;obtain⟨rfl,rfl,rfl⟩:=J;exact⟨[],none,0,rfl,aq2.nil _⟩
 .simp[aS]at J;obtain⟨rfl,rfl,rfl⟩:=J;simp only[if_true]at hz;have N:((O.take n).map λn=>UInt8.ofNat n.toNat).length=n:=by simp;omega
  refine⟨(O.take n).map λn=>UInt8.ofNat n.toNat,some a,c,by rw[N],?_,by rw[N];exact hl,hm⟩;intro V;rw[aq8,N]at V;obtain⟨ab,ao,ad⟩:=a;have aa:ad=none:=by simpa[Addr.add] using World.cell?_spot (Q 0 (by omega))
  subst aa;refine⟨ab,ao,rfl,?_,?_⟩;.have:=Q 0 (by omega);exact ar4 this
  .intro M u j;(have K:M<n:=by rcases eu M n with K |K;(.exact K);.rw[dQ (by rw[aq8,N];exact K)]at j;cases j);have U:=Q M (by omega);rw[Addr.add_lit]at U;rw[U];have e:O[M]? =some (O[M]'(by omega)):=aI (by omega);rw[bH,e];unfold aq6 at j;rw[bW,bW,dG K,e]at j;simp only[eF,aO]at j;rw[<-j,eG,aiF _ (ac _ (List.getElem_mem _))]
def aq4{held:Bool}{fuel:Nat}{v:Θ}{x:DataW H × List θ}(j:dZ enc aj w base spare held fuel 3 [v]=some x): ∃n:Int,v=.int .i64 n:=by obtain⟨n,e,_,_⟩:=DataW.trod_int bG j;exact⟨n,by simpa using e⟩
end
end
section
open Go.ChangeShapes Go.WideShapes Go.ChangeAt Go.RowKit Go.Deep
structure MaL (w:ω) (m:Ma) (v:DF):Prop where
  path:fE gV w v.A1 m.path
  fP:fE kW w v.A2 m.fP
  e1:m.path.length=v.n1
  e2:m.fP.length=v.n2
  q1:v.n1<=v.c1
  q2:v.n2<=v.c2
structure TrL (w:ω) (x:Tr) (m:kZ):Prop where
  ma:MaL w x.ma m.v
  stops:fE aq7 w m.A3 x.stops
  e3:x.stops.length=m.n3
  q3:m.n3<=m.c3
  lo: -9223372036854775808<=x.last
  hi:x.last<=9223372036854775807
def TrL.is{w:ω}{x:Tr}{m:kZ}(h:TrL w x m)(j:m.v.n1<=100)(J:m.v.n2<=100)(K:m.n3<=100):zJ w x m:=⟨⟨h.ma.path,h.ma.fP,h.ma.e1,h.ma.e2,j,J,h.ma.q1,h.ma.q2⟩,h.stops,h.e3,K,h.q3⟩
def MaL.below{w w':ω}{x:Ma}{m:DF}(h:MaL w x m)(j:w w'):MaL w' x m:={h with path:=h.path.below j,fP:=h.fP.below j}
def TrL.below{w w':ω}{x:Tr}{m:kZ}(h:TrL w x m)(j:w w'):TrL w' x m:={h with ma:=h.ma.below j,stops:=h.stops.below j}
def Zd{α:Type}{P:Nat->α->Prop}: ∀n:Nat,(∀i,i<n-> ∃p,P i p)-> ∃xs:List α,xs.length=n/\ ∀i p,xs[i]? =some p->P i p
 |0,_=>⟨[],rfl,λi p h=>by simp at h⟩
 |n+1,h=>by
  obtain⟨xs,J,M⟩:=Zd n (λi hi=>h i (by omega));obtain⟨p,K⟩:=h n (by omega);refine⟨xs++ [p],by simp[J],λi q j=>?_⟩;rw[List.getElem?_append]at j;split at j;.exact M i q j
  ·(have hi:i-xs.length=0:=by rcases Nat.eq_zero_or_pos (i-xs.length) with h |h;(.exact h);.rw[dQ (by simp;omega)]at j;cases j);rw[hi]at j;simp at j;subst j;(have:i=n:=by omega);subst this;exact K
section
variable {H:Type} {enc:τ × Θ->H} {w:ω} {base:Nat} {spare:Nat->Bool}
def mG{held:Bool}{fuel:Nat}{v:Θ}{x:DataW H × List θ}(j:dZ enc aj w base spare held fuel 4 [v]=some x): ∃b:Bool,v=.bool b:=by obtain⟨b,e,_⟩:=DataW.trod_bool dL j;exact⟨b,by simpa using e⟩
theorem Ip{held:Bool}{fuel:Nat}{cs:List Θ}{x:DataW H × List θ}(M:cs.length=4)(K:dZ enc aj w base spare held fuel 32 cs=some x): ∃k:K4,cs= [q32 k.k0,q32 k.k1,q32 k.k2,q32 k.k3]:=by
 have J:aj.cellsOf 30=1:=by kernel_rfl
 obtain⟨xs,m,_,_,_,N,j⟩:=DataW.trod_array underlying32 K;rw[J]at j;match cs,M with| [c0,c1,c2,c3],_=>match xs,N with| [y0,y1,y2,y3],_=>obtain⟨a,rfl⟩:=rV (x:=y0) (by simpa[aS] using j 0 (by decide));obtain⟨b,rfl⟩:=rV (x:=y1) (by simpa[aS] using j 1 (by decide));obtain⟨c,rfl⟩:=rV (x:=y2) (by simpa[aS] using j 2 (by decide));obtain⟨d,rfl⟩:=rV (x:=y3) (by simpa[aS] using j 3 (by decide));exact⟨⟨a,b,c,d⟩,rfl⟩
theorem pI{α:Type}(E:arb α){V O:τ}(N:α->Prop)(U:aj.underlying V=some (.slice O))(hk:aj.cellsOf O=E.k){held:Bool}(ho: ∀fuel cs x,dZ enc aj w base (λ_=>true) held fuel O cs=some x-> ∃a,cs=E.enc a/\N a){fuel:Nat}{v:Θ}{x:DataW H × List θ}(hf:dZ enc aj w base (λ_=>true) held fuel V [v]=some x): ∃(xs:List α) (A:Option δ) (c:Nat),v=.slice A xs.length c/\fE E w A xs/\xs.length<=c/\c<=μ/\ ∀a∈xs,N a:=by
 rcases open_slice U hf with⟨K,_⟩ |⟨a,len,cap,m,n,D,Pl,Z,_,hl,hm,ad,_,hi⟩;.simp only[List.cons.injEq,and_true]at K;subst K;exact⟨[],none,0,rfl,fE.nil _ _,aW _,aV _,by simp⟩
 .simp only[List.cons.injEq,and_true]at Z;subst Z;simp only[if_true]at ad;subst ad;rw[hk]at hi;have ak:=E.pos;obtain⟨xs,M,hx⟩:=Zd (P:=λi (p:α)=>N p/\ ∀j u,(E.enc p)[j]? =some u->w.cell? (a.add (i*E.k+j))=some u) len (λi ap=>by obtain⟨cs',hc,U⟩:=hi i (by omega);obtain⟨p,rfl,hB⟩:=ho _ _ _ U;obtain⟨_,an,af⟩:=World.cells?_some hc;refine⟨p,hB,λj u J=>?_⟩;(have hj:j<E.k:=by rcases eu j E.k with h |h;(.exact h);.rw[dQ (by rw[E.len];exact h)]at J;cases J);rw[<-Go.Deep.add_add,af j hj,J]);refine⟨xs,some a,_,by rw[M],?_,by rw[M];exact hl,hm,λp hp=>?_⟩;.intro K;rw[E.flat_length,M]at K;(have Q: ∀j u,(E.flat xs)[j]? =some u->w.cell? (a.add j)=some u:=by intro j u J;(have ai:j<xs.length*E.k:=by rw[<-E.flat_length];rcases eu j (E.flat xs).length with h |h;(.exact h);.rw[dQ h]at J;cases J);have aa:j / E.k<xs.length:=Nat.div_lt_of_lt_mul (by rw[Nat.mul_comm];exact ai);have ae:xs[j / E.k]? =some (xs[j / E.k]'aa):=aI aa;have e:=E.IZ ae (j % E.k) (Nat.mod_lt _ ak);(have ac:j / E.k*E.k+j % E.k=j:=by rw[Nat.mul_comm];exact Nat.div_add_mod j E.k);rw[ac,J]at e;have:=(hx _ _ ae).2 (j % E.k) u e.symm;rwa [ac]at this);obtain⟨ab,ao,am⟩:=a;have Y:(E.flat xs)[0]? =some ((E.flat xs)[0]'(by rw[E.flat_length,M];exact K)):=aI _;(have al:am=none:=by simpa[Addr.add] using World.cell?_spot (Q 0 _ Y));subst al;exact⟨ab,ao,rfl,by simpa[Addr.add] using ar4 (Q 0 _ Y),λj u J=>by have:=Q j u J;rwa [Addr.add_lit]at this⟩
  .obtain⟨i,ag⟩:=List.getElem?_of_mem hp;exact(hx i p ag).1
def QY{held:Bool}{fuel:Nat}{v:Θ}{x:DataW H × List θ}(J:dZ enc aj w base spare held fuel 3 [v]=some x): ∃n:Int,v=.int .i64 n/\ -9223372036854775808<=n/\n<=9223372036854775807:=by obtain⟨n,e,_,j⟩:=DataW.trod_int bG J;exact⟨n,by simpa using e,(bounds_i64 j).1,(bounds_i64 j).2⟩
set_option maxRecDepth 100000 in
def QZ{held:Bool}{fuel:Nat}{cs:List Θ}{x:DataW H × List θ}(M:dZ enc aj w base (λ_=>true) held fuel 58 cs=some x): ∃s:St,cs=gV.enc s:=by
 have hc:aj.cellsOf 58=2:=by kernel_rfl
 have c3:aj.cellsOf 3=1:=by kernel_rfl
 have cb:aj.cellsOf 4=1:=by kernel_rfl
 obtain⟨xs,n,_,_,J,N,j⟩:=DataW.trod_struct underlying58 M;rw[hc]at J;match cs,J,xs,N with|y0::y1:: [],_,[x0,x1],_=>obtain⟨K,rfl⟩:=aq4 (v:=y0) (x:=x0) (by simpa[aS,c3] using j 0 _ rfl);obtain⟨f1,rfl⟩:=mG (v:=y1) (x:=x1) (by simpa[aS,cb] using j 1 _ rfl);exact⟨⟨K,f1⟩,rfl⟩
set_option maxRecDepth 100000 in
def Iq{held:Bool}{fuel:Nat}{cs:List Θ}{x:DataW H × List θ}(M:dZ enc aj w base (λ_=>true) held fuel 125 cs=some x): ∃s:En,cs= [.int .i64 s.edge,.int .i64 s.at_]:=by
 have hc:aj.cellsOf 125=2:=by kernel_rfl
 have c3:aj.cellsOf 3=1:=by kernel_rfl
 obtain⟨xs,n,_,_,J,N,j⟩:=DataW.trod_struct underlying125 M;rw[hc]at J;match cs,J,xs,N with|y0::y1:: [],_,[x0,x1],_=>obtain⟨K,rfl⟩:=aq4 (v:=y0) (x:=x0) (by simpa[aS,c3] using j 0 _ rfl);obtain⟨f1,rfl⟩:=aq4 (v:=y1) (x:=x1) (by simpa[aS,c3] using j 1 _ rfl);exact⟨⟨K,f1⟩,rfl⟩
set_option maxRecDepth 100000 in
def Nb{held:Bool}{fuel:Nat}{cs:List Θ}{x:DataW H × List θ}(N:dZ enc aj w base (λ_=>true) held fuel 127 cs=some x): ∃s:Jt,cs=qV.enc s:=by
 have hc:aj.cellsOf 127=4:=by kernel_rfl
 have ce:aj.cellsOf 125=2:=by kernel_rfl
 obtain⟨xs,n,_,_,K,O,J⟩:=DataW.trod_struct underlying127 N;rw[hc]at K;match cs,K,xs,O with|y0::y1::y2::y3:: [],_,[x0,x1],_=>obtain⟨M,j⟩:=Iq (cs:= [y0,y1]) (x:=x0) (by simpa[aS,ce] using J 0 _ rfl);simp only[List.cons.injEq,and_true]at j;obtain⟨rfl,rfl⟩:=j;obtain⟨f1,e1⟩:=Iq (cs:= [y2,y3]) (x:=x1) (by simpa[aS,ce] using J 1 _ rfl);simp only[List.cons.injEq,and_true]at e1;obtain⟨rfl,rfl⟩:=e1;exact⟨⟨M,f1⟩,rfl⟩
set_option maxRecDepth 100000 in
def Vq{held:Bool}{fuel:Nat}{cs:List Θ}{x:DataW H × List θ}(N:dZ enc aj w base (λ_=>true) held fuel 114 cs=some x): ∃s:Bl,cs=qW.enc s:=by
 have hc:aj.cellsOf 114=3:=by kernel_rfl
 have c3:aj.cellsOf 3=1:=by kernel_rfl
 obtain⟨xs,n,_,_,J,O,j⟩:=DataW.trod_struct underlying114 N;rw[hc]at J;match cs,J,xs,O with|y0::y1::y2:: [],_,[x0,x1,x2],_=>obtain⟨K,rfl⟩:=aq4 (v:=y0) (x:=x0) (by simpa[aS,c3] using j 0 _ rfl);obtain⟨f1,rfl⟩:=aq4 (v:=y1) (x:=x1) (by simpa[aS,c3] using j 1 _ rfl);obtain⟨M,rfl⟩:=aq4 (v:=y2) (x:=x2) (by simpa[aS,c3] using j 2 _ rfl);exact⟨⟨K,f1,M⟩,rfl⟩
set_option maxRecDepth 100000 in
def Q5{held:Bool}{fuel:Nat}{cs:List Θ}{x:DataW H × List θ}(M:dZ enc aj w base (λ_=>true) held fuel 60 cs=some x): ∃s:Sc,cs=kW.enc s:=by
 have hc:aj.cellsOf 60=2:=by kernel_rfl
 have c3:aj.cellsOf 3=1:=by kernel_rfl
 obtain⟨xs,n,_,_,J,N,j⟩:=DataW.trod_struct underlying60 M;rw[hc]at J;match cs,J,xs,N with|y0::y1:: [],_,[x0,x1],_=>obtain⟨K,rfl⟩:=aq4 (v:=y0) (x:=x0) (by simpa[aS,c3] using j 0 _ rfl);obtain⟨f1,rfl⟩:=aq4 (v:=y1) (x:=x1) (by simpa[aS,c3] using j 1 _ rfl);exact⟨⟨K,f1⟩,rfl⟩
def Dt{held:Bool}{fuel:Nat}{v:Θ}{x:DataW H × List θ}(j:dZ enc aj w base (λ_=>true) held fuel 39 [v]=some x): ∃(xs:List _) (A:Option δ) (c:Nat),v=.slice A xs.length c/\fE gV w A xs/\xs.length<=c/\c<=μ/\ ∀a∈xs,(λ_=>True) a:=pI gV (λ_=>True) underlying39 (by kernel_rfl) (λ_ _ _ h=>(QZ h).imp λ_ e=>⟨e,trivial⟩) j
def Nc{held:Bool}{fuel:Nat}{v:Θ}{x:DataW H × List θ}(j:dZ enc aj w base (λ_=>true) held fuel 40 [v]=some x): ∃(xs:List _) (A:Option δ) (c:Nat),v=.slice A xs.length c/\fE kW w A xs/\xs.length<=c/\c<=μ/\ ∀a∈xs,(λ_=>True) a:=pI kW (λ_=>True) underlying40 (by kernel_rfl) (λ_ _ _ h=>(Q5 h).imp λ_ e=>⟨e,trivial⟩) j
def LJ{held:Bool}{fuel:Nat}{v:Θ}{x:DataW H × List θ}(j:dZ enc aj w base (λ_=>true) held fuel 23 [v]=some x): ∃(xs:List _) (A:Option δ) (c:Nat),v=.slice A xs.length c/\fE qV w A xs/\xs.length<=c/\c<=μ/\ ∀a∈xs,(λ_=>True) a:=pI qV (λ_=>True) underlying23 (by kernel_rfl) (λ_ _ _ h=>(Nb h).imp λ_ e=>⟨e,trivial⟩) j
def Q7{held:Bool}{fuel:Nat}{v:Θ}{x:DataW H × List θ}(j:dZ enc aj w base (λ_=>true) held fuel 24 [v]=some x): ∃(xs:List _) (A:Option δ) (c:Nat),v=.slice A xs.length c/\fE qW w A xs/\xs.length<=c/\c<=μ/\ ∀a∈xs,(λ_=>True) a:=pI qW (λ_=>True) underlying24 (by kernel_rfl) (λ_ _ _ h=>(Vq h).imp λ_ e=>⟨e,trivial⟩) j
def Q8{held:Bool}{fuel:Nat}{cs:List Θ}{x:DataW H × List θ}(j:dZ enc aj w base spare held fuel 3 cs=some x): ∃n:Int,cs=aq7.enc n:=by obtain⟨n,e,_,_⟩:=DataW.trod_int bG j;exact⟨n,e⟩
def FZ{held:Bool}{fuel:Nat}{v:Θ}{x:DataW H × List θ}(j:dZ enc aj w base (λ_=>true) held fuel 22 [v]=some x): ∃(xs:List _) (A:Option δ) (c:Nat),v=.slice A xs.length c/\fE aq7 w A xs/\xs.length<=c/\c<=μ/\ ∀a∈xs,(λ_=>True) a:=pI aq7 (λ_=>True) underlying22 (by kernel_rfl) (λ_ _ _ h=>(Q8 h).imp λ_ e=>⟨e,trivial⟩) j
set_option maxRecDepth 100000 in
def Nh{held:Bool}{fuel:Nat}{cs:List Θ}{x:DataW H × List θ}(Q:dZ enc aj w base (λ_=>true) held fuel 97 cs=some x): ∃s:Rt × Option δ × Nat,cs=zT.enc s/\(fE gV w s.2.1 s.1.path/\s.1.path.length<=s.2.2):=by
 have hc:aj.cellsOf 97=4:=by kernel_rfl
 have c3:aj.cellsOf 3=1:=by kernel_rfl
 have M:aj.cellsOf 39=1:=by kernel_rfl
 obtain⟨xs,n,_,_,J,U,j⟩:=DataW.trod_struct underlying97 Q;rw[hc]at J;match cs,J,xs,U with|y0::y1::y2::y3:: [],_,[x0,x1,x2,x3],_=>obtain⟨N,rfl⟩:=aq4 (v:=y0) (x:=x0) (by simpa[aS,c3] using j 0 _ rfl);obtain⟨f1,A1,r1,rfl,K,L1,V,Y⟩:=Dt (v:=y1) (x:=x1) (by simpa[aS,M] using j 1 _ rfl);obtain⟨O,rfl⟩:=aq4 (v:=y2) (x:=x2) (by simpa[aS,c3] using j 2 _ rfl);obtain⟨f3,rfl⟩:=aq4 (v:=y3) (x:=x3) (by simpa[aS,c3] using j 3 _ rfl);exact⟨(⟨N,f1,O,f3⟩,A1,r1),rfl,K,L1⟩
def LK{held:Bool}{fuel:Nat}{v:Θ}{x:DataW H × List θ}(j:dZ enc aj w base (λ_=>true) held fuel 25 [v]=some x): ∃(xs:List _) (A:Option δ) (c:Nat),v=.slice A xs.length c/\fE zT w A xs/\xs.length<=c/\c<=μ/\ ∀a∈xs,(λs=>fE gV w s.2.1 s.1.path/\s.1.path.length<=s.2.2) a:=pI zT (λs=>fE gV w s.2.1 s.1.path/\s.1.path.length<=s.2.2) underlying25 (by kernel_rfl) (λ_ _ _ h=>Nh h) j
set_option maxRecDepth 100000 in
def Q9{held:Bool}{fuel:Nat}{cs:List Θ}{x:DataW H × List θ}(hf:dZ enc aj w base (λ_=>true) held fuel 27 cs=some x): ∃(t:Tp) (m:jl),cs=m.cells.toList/\TpL w t m/\m.c1<=μ/\m.c2<=μ/\m.c3<=μ/\m.c4<=μ:=by
 have hc:aj.cellsOf 27=4:=by kernel_rfl
 have ci:aj.cellsOf 22=1:=by kernel_rfl
 have cj:aj.cellsOf 23=1:=by kernel_rfl
 have aa:aj.cellsOf 24=1:=by kernel_rfl
 have cr:aj.cellsOf 25=1:=by kernel_rfl
 obtain⟨xs,n,_,_,O,ac,j⟩:=DataW.trod_struct dB hf;rw[hc]at O;match cs,O,xs,ac with|y0::y1::y2::y3:: [],_,[x0,x1,x2,x3],_=>obtain⟨M,Q,r0,rfl,R0,U,Y,Q0⟩:=FZ (v:=y0) (x:=x0) (by simpa[aS,ci] using j 0 _ rfl);obtain⟨f1,A1,r1,rfl,R1,L1,Z,Q1⟩:=LJ (v:=y1) (x:=x1) (by simpa[aS,cj] using j 1 _ rfl);obtain⟨N,A2,r2,rfl,R2,L2,M2,Q2⟩:=Q7 (v:=y2) (x:=x2) (by simpa[aS,aa] using j 2 _ rfl);obtain⟨f3,A3,r3,rfl,R3,V,M3,K⟩:=LK (v:=y3) (x:=x3) (by simpa[aS,cr] using j 3 _ rfl);exact⟨⟨M,f1,N,f3.map (λx=>x.1)⟩,⟨Q,M.length,r0,A1,f1.length,r1,A2,N.length,r2,A3,f3.length,r3,f3⟩,rfl,⟨⟨R0,R1,R2,R3,rfl,λp J=>(K p J).1⟩,rfl,rfl,rfl,eU _,U,L1,L2,V,λp J=>(K p J).2⟩,Y,Z,M2,M3⟩
set_option maxRecDepth 100000 in
theorem abe{r:Reach}{b0:Nat}{v:Θ}{d:DataW H}{p:List θ}{held:Bool}(K:Value.okWide aj w r b0 27 v)(h:DataW.Trod enc aj w base (λ_=>true) held 27 v d p): ∃s:Tp × jl,v=.agg s.2.cells/\TpL w s.1 s.2/\s.2.c1<=μ/\s.2.c2<=μ/\s.2.c3<=μ/\s.2.c4<=μ:=by obtain⟨cs,rfl,M⟩:=okWide_struct dB K;obtain⟨fuel,j⟩:=h;obtain⟨t,m,e,J⟩:=Q9 (cs:=cs.toList) (by simpa[aS] using j);exact⟨(t,m),by rw[<-Array.toArray_toList (xs:=cs),e],J⟩
set_option maxRecDepth 100000 in
def Vr{held:Bool}{fuel:Nat}{cs:List Θ}{x:DataW H × List θ}(N:dZ enc aj w base (λ_=>true) held fuel 38 cs=some x): ∃s:Ps,cs= [.int .i64 s.edge,.int .i64 s.at_,.bool s.rev]:=by
 have hc:aj.cellsOf 38=3:=by kernel_rfl
 have c3:aj.cellsOf 3=1:=by kernel_rfl
 have cb:aj.cellsOf 4=1:=by kernel_rfl
 obtain⟨xs,n,_,_,J,O,j⟩:=DataW.trod_struct underlying38 N;rw[hc]at J;match cs,J,xs,O with|y0::y1::y2:: [],_,[x0,x1,x2],_=>obtain⟨K,rfl⟩:=aq4 (v:=y0) (x:=x0) (by simpa[aS,c3] using j 0 _ rfl);obtain⟨f1,rfl⟩:=aq4 (v:=y1) (x:=x1) (by simpa[aS,c3] using j 1 _ rfl);obtain⟨M,rfl⟩:=mG (v:=y2) (x:=x2) (by simpa[aS,cb] using j 2 _ rfl);exact⟨⟨K,f1,M⟩,rfl⟩
set_option maxRecDepth 100000 in
def Nj{held:Bool}{fuel:Nat}{cs:List Θ}{x:DataW H × List θ}(Y:dZ enc aj w base (λ_=>true) held fuel 29 cs=some x): ∃s:Rl,cs= [.int .i64 s.ahead,.int .i64 s.behind,.int .i64 s.period,.int .i64 s.most,.int .i64 s.quiet,.int .i64 s.oJ,.int .i64 s.wI,.int .i64 s.skew,.int .i64 s.lend]:=by
 have hc:aj.cellsOf 29=9:=by kernel_rfl
 have c3:aj.cellsOf 3=1:=by kernel_rfl
 obtain⟨xs,n,_,_,J,Z,j⟩:=DataW.trod_struct underlying29 Y;rw[hc]at J;match cs,J,xs,Z with|y0::y1::y2::y3::y4::y5::y6::y7::y8:: [],_,[x0,x1,x2,x3,x4,x5,x6,x7,x8],_=>obtain⟨K,rfl⟩:=aq4 (v:=y0) (x:=x0) (by simpa[aS,c3] using j 0 _ rfl);obtain⟨f1,rfl⟩:=aq4 (v:=y1) (x:=x1) (by simpa[aS,c3] using j 1 _ rfl);obtain⟨M,rfl⟩:=aq4 (v:=y2) (x:=x2) (by simpa[aS,c3] using j 2 _ rfl);obtain⟨f3,rfl⟩:=aq4 (v:=y3) (x:=x3) (by simpa[aS,c3] using j 3 _ rfl);obtain⟨N,rfl⟩:=aq4 (v:=y4) (x:=x4) (by simpa[aS,c3] using j 4 _ rfl);obtain⟨O,rfl⟩:=aq4 (v:=y5) (x:=x5) (by simpa[aS,c3] using j 5 _ rfl);obtain⟨Q,rfl⟩:=aq4 (v:=y6) (x:=x6) (by simpa[aS,c3] using j 6 _ rfl);obtain⟨U,rfl⟩:=aq4 (v:=y7) (x:=x7) (by simpa[aS,c3] using j 7 _ rfl);obtain⟨V,rfl⟩:=aq4 (v:=y8) (x:=x8) (by simpa[aS,c3] using j 8 _ rfl);exact⟨{ahead:=K,behind:=f1,period:=M,most:=f3,quiet:=N,oJ:=O,wI:=Q,skew:=U,lend:=V},rfl⟩
set_option maxRecDepth 100000 in
def Nk{held:Bool}{fuel:Nat}{cs:List Θ}{x:DataW H × List θ}(N:dZ enc aj w base (λ_=>true) held fuel 36 cs=some x): ∃s:Int × Int × Int × Bool,cs= [.int .i64 s.1,.int .i64 s.2.1,.int .i64 s.2.2.1,.bool s.2.2.2]:=by
 have hc:aj.cellsOf 36=4:=by kernel_rfl
 have c3:aj.cellsOf 3=1:=by kernel_rfl
 have cb:aj.cellsOf 4=1:=by kernel_rfl
 obtain⟨xs,n,_,_,J,O,j⟩:=DataW.trod_struct underlying36 N;rw[hc]at J;match cs,J,xs,O with|y0::y1::y2::y3:: [],_,[x0,x1,x2,x3],_=>obtain⟨K,rfl⟩:=aq4 (v:=y0) (x:=x0) (by simpa[aS,c3] using j 0 _ rfl);obtain⟨f1,rfl⟩:=aq4 (v:=y1) (x:=x1) (by simpa[aS,c3] using j 1 _ rfl);obtain⟨M,rfl⟩:=aq4 (v:=y2) (x:=x2) (by simpa[aS,c3] using j 2 _ rfl);obtain⟨f3,rfl⟩:=mG (v:=y3) (x:=x3) (by simpa[aS,cb] using j 3 _ rfl);exact⟨(K,f1,M,f3),rfl⟩
set_option maxRecDepth 100000 in
def X4{held:Bool}{fuel:Nat}{cs:List Θ}{x:DataW H × List θ}(Z:dZ enc aj w base (λ_=>true) held fuel 42 cs=some x): ∃s:Ma × DF,cs= [.int .i64 s.1.ref,.bool s.1.rev,.slice s.2.A1 s.2.n1 s.2.c1,.slice s.2.A2 s.2.n2 s.2.c2,.int .i64 s.1.gap]/\MaL w s.1 s.2:=by
 have hc:aj.cellsOf 42=5:=by kernel_rfl
 have c3:aj.cellsOf 3=1:=by kernel_rfl
 have cb:aj.cellsOf 4=1:=by kernel_rfl
 have Q:aj.cellsOf 39=1:=by kernel_rfl
 have U:aj.cellsOf 40=1:=by kernel_rfl
 obtain⟨xs,n,_,_,K,aa,j⟩:=DataW.trod_struct dA Z;rw[hc]at K;match cs,K,xs,aa with|y0::y1::y2::y3::y4:: [],_,[x0,x1,x2,x3,x4],_=>obtain⟨V,rfl⟩:=aq4 (v:=y0) (x:=x0) (by simpa[aS,c3] using j 0 _ rfl);obtain⟨f1,rfl⟩:=mG (v:=y1) (x:=x1) (by simpa[aS,cb] using j 1 _ rfl);obtain⟨J,A2,r2,rfl,N,L2,M2,Q2⟩:=Dt (v:=y2) (x:=x2) (by simpa[aS,Q] using j 2 _ rfl);obtain⟨f3,A3,r3,rfl,O,M,M3,Q3⟩:=Nc (v:=y3) (x:=x3) (by simpa[aS,U] using j 3 _ rfl);obtain⟨Y,rfl⟩:=aq4 (v:=y4) (x:=x4) (by simpa[aS,c3] using j 4 _ rfl);exact⟨(⟨V,f1,J,f3,Y⟩,⟨A2,J.length,r2,A3,f3.length,r3⟩),rfl,⟨N,O,rfl,rfl,L2,M⟩⟩
set_option maxRecDepth 100000 in
def Rf{held:Bool}{fuel:Nat}{cs:List Θ}{x:DataW H × List θ}(hf:dZ enc aj w base (λ_=>true) held fuel 34 cs=some x): ∃(s t:Int) (q:Zx),cs= [.int .i64 s,.int .i64 t,q32 q.k0,q32 q.k1,q32 q.k2,q32 q.k3,.int .i64 q.state,q32 q.a,q32 q.b,q32 q.j0,q32 q.j1,q32 q.j2,q32 q.j3,q.half,q32 q.a2,q32 q.b2]:=by
 have hc:aj.cellsOf 34=16:=by kernel_rfl
 have c3:aj.cellsOf 3=1:=by kernel_rfl
 have cb:aj.cellsOf 4=1:=by kernel_rfl
 have J:aj.cellsOf 30=1:=by kernel_rfl
 have ck:aj.cellsOf 32=4:=by kernel_rfl
 obtain⟨xs,n,_,_,O,aa,j⟩:=DataW.trod_struct bD hf;rw[hc]at O;match cs,O,xs,aa with|y0::y1::y2::y3::y4::y5::y6::y7::y8::y9::y10::y11::y12::y13::y14::y15:: [],_,[x0,x1,x2,x3,x4,x5,x6,x7,x8,x9],_=>obtain⟨Q,rfl⟩:=aq4 (v:=y0) (x:=x0) (by simpa[aS,c3] using j 0 _ rfl);obtain⟨f1,rfl⟩:=aq4 (v:=y1) (x:=x1) (by simpa[aS,c3] using j 1 _ rfl);obtain⟨K,e2⟩:=Ip (cs:= [y2,y3,y4,y5]) (x:=x2) rfl (by simpa[aS,ck] using j 2 _ rfl);simp only[List.cons.injEq,and_true]at e2;obtain⟨rfl,rfl,rfl,rfl⟩:=e2;obtain⟨f3,rfl⟩:=aq4 (v:=y6) (x:=x3) (by simpa[aS,c3] using j 3 _ rfl);obtain⟨U,rfl⟩:=rV (v:=y7) (x:=x4) (by simpa[aS,J] using j 4 _ rfl);obtain⟨V,rfl⟩:=rV (v:=y8) (x:=x5) (by simpa[aS,J] using j 5 _ rfl);obtain⟨M,N⟩:=Ip (cs:= [y9,y10,y11,y12]) (x:=x6) rfl (by simpa[aS,ck] using j 6 _ rfl);simp only[List.cons.injEq,and_true]at N;obtain⟨rfl,rfl,rfl,rfl⟩:=N;obtain⟨Y,rfl⟩:=mG (v:=y13) (x:=x7) (by simpa[aS,cb] using j 7 _ rfl);obtain⟨Z,rfl⟩:=rV (v:=y14) (x:=x8) (by simpa[aS,J] using j 8 _ rfl);obtain⟨f9,rfl⟩:=rV (v:=y15) (x:=x9) (by simpa[aS,J] using j 9 _ rfl);exact⟨Q,f1,⟨K.k0,K.k1,K.k2,K.k3,f3,U,V,M.k0,M.k1,M.k2,M.k3,Y,Z,f9⟩,rfl⟩
set_option maxRecDepth 100000 in
def Nl{held:Bool}{fuel:Nat}{cs:List Θ}{x:DataW H × List θ}(hf:dZ enc aj w base (λ_=>true) held fuel 44 cs=some x): ∃s:Tr × kZ,cs=(jf s.1 s.2).toList/\TrL w s.1 s.2:=by
 have hc:aj.cellsOf 44=48:=by kernel_rfl
 have c3:aj.cellsOf 3=1:=by kernel_rfl
 have cb:aj.cellsOf 4=1:=by kernel_rfl
 have ac:aj.cellsOf 30=1:=by kernel_rfl
 have ag:aj.cellsOf 29=9:=by kernel_rfl
 have ae:aj.cellsOf 34=16:=by kernel_rfl
 have ai:aj.cellsOf 36=4:=by kernel_rfl
 have af:aj.cellsOf 38=3:=by kernel_rfl
 have ad:aj.cellsOf 42=5:=by kernel_rfl
 have ci:aj.cellsOf 22=1:=by kernel_rfl
 obtain⟨xs,n,_,_,U,aq,j⟩:=DataW.trod_struct bg hf;rw[hc]at U;match cs,U,xs,aq with|y0::y1::y2::y3::y4::y5::y6::y7::y8::y9::y10::y11::y12::y13::y14::y15::y16::y17::y18::y19::y20::y21::y22::y23::y24::y25::y26::y27::y28::y29::y30::y31::y32::y33::y34::y35::y36::y37::y38::y39::y40::y41::y42::y43::y44::y45::y46::y47:: [],_,[x0,x1,x2,x3,x4,x5,x6,x7,x8,x9,x10,x11,x12,x13,x14,x15],_=>obtain⟨f0,rfl⟩:=aq4 (v:=y0) (x:=x0) (by simpa[aS,c3] using j 0 _ rfl);obtain⟨f1,rfl⟩:=aq4 (v:=y1) (x:=x1) (by simpa[aS,c3] using j 1 _ rfl);obtain⟨f2,e2⟩:=Nj (cs:= [y2,y3,y4,y5,y6,y7,y8,y9,y10]) (x:=x2) (by simpa[aS,ag] using j 2 _ rfl);simp only[List.cons.injEq,and_true]at e2;obtain⟨rfl,rfl,rfl,rfl,rfl,rfl,rfl,rfl,rfl⟩:=e2;obtain⟨f3,g3,q3,e3⟩:=Rf (cs:= [y11,y12,y13,y14,y15,y16,y17,y18,y19,y20,y21,y22,y23,y24,y25,y26]) (x:=x3) (by simpa[aS,ae] using j 3 _ rfl);simp only[List.cons.injEq,and_true]at e3;obtain⟨rfl,rfl,rfl,rfl,rfl,rfl,rfl,rfl,rfl,rfl,rfl,rfl,rfl,rfl,rfl,rfl⟩:=e3;obtain⟨f4,rfl⟩:=rV (v:=y27) (x:=x4) (by simpa[aS,ac] using j 4 _ rfl);obtain⟨J,M⟩:=Nk (cs:= [y28,y29,y30,y31]) (x:=x5) (by simpa[aS,ai] using j 5 _ rfl);simp only[List.cons.injEq,and_true]at M;obtain⟨rfl,rfl,rfl,rfl⟩:=M;obtain⟨f6,rfl,ar,ap⟩:=QY (v:=y32) (x:=x6) (by simpa[aS,c3] using j 6 _ rfl);obtain⟨f7,rfl⟩:=mG (v:=y33) (x:=x7) (by simpa[aS,cb] using j 7 _ rfl);obtain⟨f8,N⟩:=Vr (cs:= [y34,y35,y36]) (x:=x8) (by simpa[aS,af] using j 8 _ rfl);simp only[List.cons.injEq,and_true]at N;obtain⟨rfl,rfl,rfl⟩:=N;obtain⟨f9,rfl⟩:=aq4 (v:=y37) (x:=x9) (by simpa[aS,c3] using j 9 _ rfl);obtain⟨ak,rfl⟩:=aq4 (v:=y38) (x:=x10) (by simpa[aS,c3] using j 10 _ rfl);obtain⟨al,rfl⟩:=mG (v:=y39) (x:=x11) (by simpa[aS,cb] using j 11 _ rfl);obtain⟨O,K,Y⟩:=X4 (cs:= [y40,y41,y42,y43,y44]) (x:=x12) (by simpa[aS,ad] using j 12 _ rfl);simp only[List.cons.injEq,and_true]at K;obtain⟨rfl,rfl,rfl,rfl,rfl⟩:=K;obtain⟨am,rfl⟩:=aq4 (v:=y45) (x:=x13) (by simpa[aS,c3] using j 13 _ rfl);obtain⟨an,rfl⟩:=mG (v:=y46) (x:=x14) (by simpa[aS,cb] using j 14 _ rfl);obtain⟨Q,V,au,rfl,aa,Z,av,aw⟩:=FZ (v:=y47) (x:=x15) (by simpa[aS,ci] using j 15 _ rfl);exact⟨({id:=f0,len:=f1,rl:=f2,side:=f3,fG:=g3,sl:=J.1,sa:=J.2.1,sb:=J.2.2.1,free:=J.2.2.2,last:=f6,on:=f7,pos:=f8,ref:=f9,past:=ak,rev:=al,ma:=O.1,at_:=am,held:=an,stops:=Q},⟨q3,f4,O.2,V,Q.length,au⟩),rfl,⟨Y,aa,rfl,Z,ar,ap⟩⟩
set_option maxRecDepth 100000 in
def X5{r:Reach}{b0:Nat}{v:Θ}{d:DataW H}{p:List θ}{held:Bool}(K:Value.okWide aj w r b0 44 v)(h:DataW.Trod enc aj w base (λ_=>true) held 44 v d p): ∃s:Tr × kZ,v=.agg (jf s.1 s.2)/\TrL w s.1 s.2:=by obtain⟨cs,rfl,M⟩:=okWide_struct bg K;obtain⟨fuel,j⟩:=h;obtain⟨s,e,J⟩:=Nl (cs:=cs.toList) (by simpa[aS] using j);exact⟨s,by rw[<-Array.toArray_toList (xs:=cs),e],J⟩
end
end
section
open Go.ChangeShapes Go.WideShapes Go.ChangeAt Go.RowKit Go.Shelf
open Go.ChangeMaps (open_string shut_string)
def asP (w:ω) (F:Cp × Int) (e:ε) (w':ω):Prop:= ∃x m er A n k,e=.returned (.tuple #[.agg (jf x m),.slice A n k,.int .i64 er])/\(er=0->F.2=0/\x=F.1.x/\m.q=F.1.q/\m.nx=F.1.nx/\n=F.1.out.length/\zJ w' x m)/\(er≠0->n=0)/\w w'
theorem asW{w:ω}{t:Tp}{m:jl}(h:jE w t m)(V:Tab w)(x:Tr)(j:kZ)(hx:zJ w x j)(now:Int)(bs:List UInt8)(Ak:Option δ)(nk ck:Nat)(aa:nk=bs.length)(hB:aq2 w Ak ck bs)(Z:bs.length<=2000)(ac:x.stops.length<=60):Γ aj 9 #[.agg m.cells,.agg (jf x j),.agg #[.int .i64 1,.int .i64 0,.slice Ak nk ck],.int .i64 now] w (asP w (wW t now ⟨x,j.q,j.nx,[]⟩ bs)):=by
 refine(QV h V x j hx 1 0 now bs Ak nk ck aa hB Z ac).mono λe w' ⟨U,N,O⟩=>?_;have hF:yB t now ⟨x,j.q,j.nx,[]⟩ 1 0 bs=wW t now ⟨x,j.q,j.nx,[]⟩ bs:=by simp[yB]
 rw[hF]at N O;generalize wW t now ⟨x,j.q,j.nx,[]⟩ bs=F at*;have Q: ∀er,er≠0->LC w er e w'->asP w F e w':=λer J K=>by obtain⟨zx,zm,hz⟩:=ahP;exact⟨zx,zm,er,none,0,0,by rw[<-hz];exact K.1,λh=>absurd h J,λ_=>rfl,K.2⟩
 by_cases M:Ee t x 1 now;.exact Q 1 (by decide) (U M)
 .by_cases J:F.2=0;.obtain⟨s,Bq,g,K,hp,Y⟩:=O M J;refine⟨s.x,s.m,0,_,_,_,Y,λ_=>⟨J,?_,?_,?_,?_,K.tr.is⟩,λh=>absurd rfl h,K.below⟩ <;> rw[<-hp] <;> rfl
  .exact Q _ J (N M J)
def ati(x:Tr)(m:kZ)(l:Int):(jf {x with last:=l} m).setIfInBounds 32 (.int .i64 x.last)=jf x m:=by kernel_rfl
def abf{a b c d e:Bool}(h:(a&&b&&c&&d&&e)=true):a=true/\b=true/\c=true/\d=true/\e=true:=by simp only[bM]at h;exact⟨h.1.1.1.1,h.1.1.1.2,h.1.1.2,h.1.2,h.2⟩
theorem asZ(Q:Tp × jl)(s1:Tr × kZ)(v2:Θ)(bs:List UInt8)(now:Int)(a1: -9223372036854775808<=now)(a4:now<=9223372036854775807)(w:ω)(b0:TpL w Q.1 Q.2/\Q.2.c1<=μ/\Q.2.c2<=μ/\Q.2.c3<=μ/\Q.2.c4<=μ)(b1:TrL w s1.1 s1.2)(b2:jG bs v2 w)(hL:laidMetH prog [("lineside/vars.widths",Rows.laid_lineside_vars_widths)] w):Γ prog 4 #[.agg Q.2.cells,.agg (jf s1.1 s1.2),v2,.int .i64 now] w λe w'=>e= .returned (.bool true)/\Below w.heap.size w w':=by
 obtain⟨t,m⟩:=Q;obtain⟨x,N⟩:=s1;obtain⟨A,c,rfl,hB⟩:=b2;have IE:=Vk hL;clear hL;simp only at b0 b1 |-;obtain⟨hT,_,_,_,au⟩:=b0;have aL:=hT.q4;have hc:m.n4<=9223372036854775807:=by unfold μ at au;omega
 clear au aL;obtain⟨n,hn⟩:=fD bs.length;rw[<-hn];have j:Own w _ [_,_]:=Own.iY w 27 44 m.cells (jf x N);have ae:=λW (U:Below w.heap.size w W)=>anJ (hT.below U) hc x N 1 0 A n c;clear hc;obtain⟨fw,al⟩:=fD (xB t m&&decide (N.v.n1<=100)&&decide (N.v.n2<=100)&&decide (N.n3<=40)&&decide (n<=2000));rw[<-al]at ae;have HN:=ah hn;have HH:=ah al;have HX:=ah (And.intro hT (And.intro b1 hB));clear hn al hT b1 hB a1 a4;unfold jl.cells at j ae |-;cases fw with
 |false=>clear HH HX HN;go_enter func4,ntmps4;go_wp2_with(first|((with_reducible first|refine gK j ?_ _ rfl rfl _ dB rfl (by kernel_rfl) ?_|refine iQ j ?_ _ rfl rfl _ bg rfl (iF _ N) ?_|refine mJ j ?_ _ rfl rfl _ underlying48 rfl (by kernel_rfl) ?_);(.first|rfl|(simp[aF,ψ];done)))|(go_at_call 7;(with_reducible refine(Zb _ (IE.below j.below)).mono ?_);rintro e O⟨rfl,J⟩;replace j:=j.grow J;replace j:=j.alloc 48 #[.int .i64 1,.int .i64 0,.slice A n c] O.heap.size rfl;simp only[bQ,aZ]at j)|(go_at_call 8;(with_reducible refine(ae _ j.below).mono ?_);rintro e O⟨rfl,J⟩;replace j:=j.grow J));go_ret;exact⟨rfl,j.below⟩
 |true=>
  obtain⟨l1,l2,l3,l4,l5⟩:=abf HH.out.symm;simp only[decide_eq_true_eq]at l2 l3 l4 l5;obtain⟨hT,aq,hB⟩:=HX.out;have hI:=hT.is l1;have hX:=aq.is l2 l3 (aG l4 (by decide));have am:x.stops.length<=40:=by rw[hX.e3];omega
  have ak:bs.length<=2000:=by rw[<-HN.out];exact l5
  have ag:=λW (U:Below w.heap.size w W)=>asW (hI.below U) (IE.below U) x N (hX.below U) now bs A n c HN.out (hB.below U) ak (aG am (by decide));have V:=λW (U:Below w.heap.size w W) K M (h2:zJ W K M) h3=>asW (hI.below U) (IE.below U) K M h2 now bs A n c HN.out (hB.below U) ak h3;have av:=as8 t now ⟨x,N.q,N.nx,[]⟩ bs;have aw:=λh0=> @as7 t now ⟨x,N.q,N.nx,[]⟩ bs h0 _ _ rfl rfl;generalize wW t now ⟨x,N.q,N.nx,[]⟩ bs=R at*;have HT:=ah (And.intro aw (And.intro av am));unfold jl.cells at ag V;have HS:=ah V;have hs:=λ(W:ω) (K:Tr) (M:kZ)=>tX (P:=aj) W 44 gL (jf K M) rfl (lM K M);unfold asP at ag;clear HH HX l1 l2 l3 l4 l5 hT aq hB hI hX am ak V aw av;go_enter func4,ntmps4;go_upto_region 7 with(first|((with_reducible first|refine gK j ?_ _ rfl rfl _ dB rfl (by kernel_rfl) ?_|refine iQ j ?_ _ rfl rfl _ bg rfl (iF _ N) ?_|refine mJ j ?_ _ rfl rfl _ underlying48 rfl (by kernel_rfl) ?_);(.first|rfl|(simp[aF,ψ];done)))|((first|(go_at_call 7;(with_reducible refine(Zb _ (IE.below j.below)).mono ?_);rintro e O⟨rfl,J⟩;replace j:=j.grow J;replace j:=j.alloc 48 #[.int .i64 1,.int .i64 0,.slice A n c] O.heap.size rfl)|(go_at_call 9;(with_reducible refine(ag _ j.below).mono ?_);rintro e w3⟨K,M,er,O,J,iG,rfl,p1,p2,ar⟩;replace j:=j.grow ar;replace j:=j.alloc 44 (jf K M) w3.heap.size rfl));simp only[bQ,aZ]at j)|(go_at_call 8;(with_reducible refine(ae _ j.below).mono ?_);rintro e O⟨rfl,J⟩;replace j:=j.grow J))
  by_cases h0:er=0;.obtain rfl:=h0;obtain⟨r0,e1,e2,e3,-,aD⟩:=p1 rfl;obtain⟨ht,az,aM⟩:=HT.out;(have ax:K.stops.length<=60:=by rw[e1];first|omega|(simp only at az;omega));have ai:=ht r0;rw[<-e1,<-e2,<-e3]at ai;have ac:zJ (w3.alloc (.cells (jf K M) 44)) K M:=aD.below jm;have V:=HS.out _ j.below K M ac ax;generalize wW t now ⟨K,M.q,M.nx,[]⟩ bs=R2 at V ai;have HR:=ah (And.intro ai ac);unfold asP at V;clear ht az aM ai ac aD e1 e2 e3 r0 p1 p2 HT HS ax ar ag HN;(go_upto_region 10 with(first|((with_reducible first|refine gK j ?_ _ rfl rfl _ dB rfl (by kernel_rfl) ?_|refine iQ j ?_ _ rfl rfl _ bg rfl (iF _ N) ?_|refine mJ j ?_ _ rfl rfl _ underlying48 rfl (by kernel_rfl) ?_|refine VN j ?_ _ rfl rfl _ bg rfl (iF _ M) ?_);(.first|rfl|(simp[aF,ψ];done)))|((first|(go_at_call 7;(with_reducible refine(Zb _ (IE.below j.below)).mono ?_);rintro e O⟨rfl,J⟩;replace j:=j.grow J;replace j:=j.alloc 48 #[.int .i64 1,.int .i64 0,.slice A n c] O.heap.size rfl)|(go_at_call 9;(with_reducible refine V.mono ?_);rintro e Z⟨x6,Y,ap,O,n6,J,rfl,q1,q2,af⟩;replace j:=j.grow af;replace j:=j.alloc 44 (jf x6 Y) Z.heap.size rfl));simp only[bQ,aZ]at j)|(go_at_call 8;(with_reducible refine(ae _ j.below).mono ?_);rintro e O⟨rfl,J⟩;replace j:=j.grow J)));by_cases h6:ap=0;(.obtain rfl:=h6;obtain⟨Q,g1,g2,g3,g4,aa⟩:=q1 rfl;obtain⟨hR,ac⟩:=HR.out;obtain⟨l,o,hl,ho⟩:=hR.resolve_left (not_not_intro Q);rw[hl]at g1 g2 g3 g4;simp only at g1 g2 g3 g4;(have hc:(jf x6 Y).setIfInBounds 32 (.int .i64 K.last)=jf K Y:=by rw[g1];exact ati K Y l);(have an:zJ Z K Y:=by rw[g1]at aa;exact⟨aa.ma,aa.stops,aa.e3,aa.l3,aa.q3⟩);(have a6:decide ((n6:Int)<=1)=true:=by rw[g4];simp;omega);have aR:=λW (h1:Below Z.heap.size Z W)=>atb K M Y W ((ac.below af).below h1) (an.below h1) g2 g3;have a5:=(j.b3.cell 32).trans (aoj K M);have ad:Below Z.heap.size Z (Z.alloc (.cells (jf x6 Y) 44)):=gY.alloc ig _;clear HR hR ac aa an hl ho q1 q2 g1 g2 g3 g4 Q V af;go_wp2_with(first|((with_reducible first|refine VN j ?_ _ rfl rfl _ bg rfl (iF _ M) ?_|refine VO j ?_ _ rfl rfl _ bg rfl (iF _ Y) ?_);(.first|rfl|(simp[aF,ψ];done)))|((with_reducible refine asv 32 (.int .i64 K.last) j rfl _ _ _ rfl rfl rfl (by kernel_rfl) ?_ rfl ?_);(.exact YV x6 Y 32 (by decide));intro O J iG jQ;have aE:Below Z.heap.size Z O:=⟨(J.below.os.trans j.below.os.symm).trans ad.os,(J.below.tape.trans j.below.tape.symm).trans ad.tape,(J.below.output.trans j.below.output.symm).trans ad.output,(by rw[iG];exact ad.size),λuK sK=>(jQ uK (by omega)).trans (ad.block uK sK)⟩;rw[hc]at J;replace j:=J;clear J iG jQ ad)|(go_at_call 10;(with_reducible refine(aR _ aE).mono ?_);rintro e O⟨rfl,J⟩;replace j:=j.grow J));go_ret;exact⟨rfl,j.below⟩);·(have e6:(ap != 0)=true:=by simpa using h6);obtain rfl:=q2 h6;clear q1 q2 h6 HR V af;go_wp2_with fail;go_ret;exact⟨rfl,j.below⟩
  ·(have e0:(er != 0)=true:=by simpa using h0);clear h0 p1 p2 HT HS HN;go_wp2_with fail;go_ret;exact⟨rfl,j.below⟩
end
end Go.Proofs.YthnmgjngniciaaaGreatDoor
