/- THE LAW -/
import Derived.Test.YthnmgjngniciaaaGreatDoorP11
import Derived.Test.YthnmgjngniciaaaGreatDoorTie
import Derived.Test.YthnmgjngniciaaaGreatDoorCards
import Derived.LaidMore
import Derived.Stop.Joined
import Derived.SevenTiedAt
set_option linter.all false
set_option maxHeartbeats 16000000
set_option maxRecDepth 8000
open List renaming getD_eq_getElem?_getD->bH,getElem?_eq_getElem->aI,getElem?_eq_none->dQ,getElem?_map->bW,getElem?_take_of_lt->dG
open Nat renaming lt_or_ge->eu
open Option renaming getD_some->eG,map_some->eF
open Option.some renaming injEq->aO
namespace Go.Proofs.YthnmgjngniciaaaGreatDoor
open Go.RowKit Go.Shelf Go.Proofs.Tryz
open DataW renaming trod->dZ
open Go.Proofs.Tryz renaming prog->aj,underlying3->bG,underlying4->dL,underlying45->dW
open Value renaming cells->aS
section
open Go.ChangeShapes Go.WideShapes Go.ChangeAt Go.RowKit Go.Shelf Go.Deep
open Go.ChangeMaps (open_string shut_string)
theorem Yf{Q:Type}{enc:TypeId × Value->Q}{w:World}{base:Nat}{held:Bool}{fuel:Nat}{v:Value}{x:DataW Q × List MemPlace}(hf:dZ enc aj w base (λ_=>true) held fuel 45 [v]=some x): ∃bs,jG bs v w:=by
 have Z:aj.cellsOf 5=1:=by kernel_rfl
 rcases open_ints dW underlying5 Z hf with⟨j,hx⟩ |⟨a,K,V,N,j,_,hl,hm,hz,hx,O,ac⟩;.simp at j;subst j;exact⟨[],none,0,rfl,aq2.nil _⟩
 .simp at j;subst j;simp only[if_true]at hz;have M:((N.take K).map λn=>UInt8.ofNat n.toNat).length=K:=by simp;omega
  refine⟨(N.take K).map λn=>UInt8.ofNat n.toNat,some a,V,by rw[M],?_,by rw[M];exact hl,hm⟩;intro Y;rw[aq8,M]at Y;obtain⟨ab,ao,ad⟩:=a;have aa:ad=none:=by simpa[Addr.add] using World.cell?_spot (O 0 (by omega))
  subst aa;refine⟨ab,ao,rfl,?_,?_⟩;.have:=O 0 (by omega);exact ar4 this
  .intro J u d;(have H:J<K:=by rcases eu J K with H |H;(.exact H);.rw[dQ (by rw[aq8,M];exact H)]at d;cases d);have U:=O J (by omega);rw[Addr.add_lit]at U;rw[U];have e:N[J]? =some (N[J]'(by omega)):=aI (by omega);rw[bH,e];unfold aq6 at d;rw[bW,bW,dG H,e]at d;simp only[eF,aO]at d;rw[<-d,eG,aiF _ (ac _ (List.getElem_mem _))]
theorem asy{α:Type}{cs:Array α}(h:cs.size=3): ∃a b c:α,cs= #[a,b,c]:=by obtain⟨l⟩:=cs;match l,h with| [a,b,c],_=>exact⟨a,b,c,rfl⟩
theorem ae8{j:Type}{enc:TypeId × Value->j}{w:World}{base:Nat}{r:Reach}{b0:Nat}{v:Value}{H:DataW j}{p:List MemPlace}{held:Bool}(O:Value.okWide aj w r b0 48 v)(h:DataW.Trod enc aj w base (λ_=>true) held 48 v H p): ∃s:Int × Int × List UInt8,ah6 s.1 s.2.1 s.2.2 v w:=by
 obtain⟨cs,rfl,N⟩:=okWide_struct underlying48 O;have J:aj.cellsOf 48=3:=by kernel_rfl
 have c3:aj.cellsOf 3=1:=by kernel_rfl
 have cb:aj.cellsOf 45=1:=by kernel_rfl
 obtain⟨Q,U,V,rfl⟩:=asy (N.trans J);obtain⟨fuel,K⟩:=h;obtain⟨xs,n,_,_,_,M,d⟩:=DataW.trod_struct underlying48 K;match xs,M with| [x0,x1,x2],_=>obtain⟨a,rfl⟩:=aq4 (v:=Q) (x:=x0) (by simpa[aS,c3] using d 0 _ rfl);obtain⟨b,rfl⟩:=aq4 (v:=U) (x:=x1) (by simpa[aS,c3] using d 1 _ rfl);obtain⟨bs,A,c,rfl,hB⟩:=Yf (v:=V) (x:=x2) (by simpa[aS,cb] using d 2 _ rfl);exact⟨⟨a,b,bs⟩,A,c,rfl,hB⟩
def Ej:List (String × DataW Unit):= [("lineside/vars.widths",Rows.laid_lineside_vars_widths)]
theorem Em(os:Os)(args:Array Value):laidMetH aj Ej ((World.doorLaid aj 4000 os).forCall (λ_ _=>0) ⟨#[],args,[]⟩).memory:=laidMetH_of_parts3 (fuel:=8) (laidMet_of_run' 8 (by kernel_rfl) (by kernel_rfl)) (by kernel_rfl) (by kernel_rfl)
set_option maxRecDepth 100000 in
theorem onboardKeeps_lifted(os:Os)(ai:os.Started)(aa:Type)(enc:TypeId × Value->aa):ReturnsInHanded {} checked os 5 .any (λw args=>(Rows.onboardKeepsSpec.pre enc aj f5 [] false w args/\laidMetH aj Ej w)/\sizedMet enc aj f5 (OpenSpec.ofChange Rows.onboardKeepsSpec) false w args) (Rows.onboardKeepsSpec.post enc aj f5 false true false false):=by
 refine returnsInHanded_of_change_and (C:=checked) (X:=λw _=>laidMetH aj Ej w) (λ_ _ _ hh h=>h.of_heap hh) own ai (by kernel_rfl) func5 (ChangeSpec.witness_shaped (enc:=enc) (C:=checked) (os:=os) (X:=λw _=>laidMetH aj Ej w) false (World.doorLaid aj 4000 os) #[.agg #[.slice none 0 0,.slice none 0 0,.slice none 0 0,.slice none 0 0],.agg gL,.agg #[.int .i64 0,.int .i64 0,.slice none 0 0],.int .i64 0] 8 rfl (World.shaped_of_RefB (by kernel_rfl) (by kernel_rfl)) (by kernel_rfl) (by kernel_rfl) (by kernel_rfl) (Em os _)) ?_;intro W base args ds gs ak U Q _ _ hL _;have j: ∀(V:Nat) t v,Tryz.f5.params[V]? =some t->args[V]? =some v->Value.okWide aj W .any base t v:=U;have ac:=Q;obtain⟨p,q,O,hV,rfl,ar,au⟩:=Q;have hA:DataW.TrodAll enc aj W 0 (λ_=>true) true Tryz.f5.params.toList args.toList ds p:=O;rw[params5]at hA j;obtain⟨Y,av,d0,al,p0,q0,aq,rfl,rfl,J,r0⟩:=trodAll_cons hA;obtain⟨Z,aw,d1,am,p1,q1,rfl,rfl,rfl,K,r1⟩:=trodAll_cons r0;obtain⟨H,ax,d2,an,p2,q2,rfl,rfl,rfl,M,r2⟩:=trodAll_cons r1;obtain⟨v3,az,d3,ap,p3,q3,rfl,rfl,rfl,N,r3⟩:=trodAll_cons r2;obtain⟨rfl,rfl,rfl⟩:=trodAll_nil r3;obtain rfl:args= #[Y,Z,H,v3]:=by cases args;simp_all
 obtain⟨rfl,rfl⟩:=trodVars_none hV;have k0:=J;have ad: ∀x∈p0,x.block<W.heap.size:=by obtain⟨m,hm⟩:=k0;exact DataW.trod_lt m _ _ _ hm
 have k1:=K;have ae: ∀x∈p1,x.block<W.heap.size:=by obtain⟨m,hm⟩:=k1;exact DataW.trod_lt m _ _ _ hm
 have k2:=M;have af: ∀x∈p2,x.block<W.heap.size:=by obtain⟨m,hm⟩:=k2;exact DataW.trod_lt m _ _ _ hm
 have k3:=N;have ag: ∀x∈p3,x.block<W.heap.size:=by obtain⟨m,hm⟩:=k3;exact DataW.trod_lt m _ _ _ hm
 obtain⟨s0,rfl,b0⟩:=abe (j 0 27 Y rfl rfl) J;obtain⟨s1,rfl,b1⟩:=X5 (j 1 44 Z rfl rfl) K;obtain⟨s2,b2⟩:=ae8 (j 2 48 H rfl rfl) M;obtain⟨a3,rfl,_,_,w3⟩:=open_int bG (j 3 3 v3 rfl rfl) N;clear O U;refine(QW s0 s1 H s2 a3 (bounds_i64 w3).1 (bounds_i64 w3).2 W b0 b1 b2 hL).mono λe W' ⟨he,d⟩=>?_;subst he;exact⟨_,rfl,_,_,_,[],_,[],ac,trodAll_mk1 (shut_bool dL _),(trodAll_cons_mk (Below.trod arG (by kernel_rfl) (of_decide_eq_true (by kernel_rfl)) k0 d ad) (trodAll_cons_mk (Below.trod arG (by kernel_rfl) (of_decide_eq_true (by kernel_rfl)) k1 d ae) (trodAll_cons_mk (Below.trod arG (by kernel_rfl) (of_decide_eq_true (by kernel_rfl)) k2 d af) (trodAll_cons_mk (Below.trod arG (by kernel_rfl) (of_decide_eq_true (by kernel_rfl)) k3 d ag) trodAll_mk0)))),rfl,d.frame _,λh=>by cases h⟩
theorem alh{a b:Bool}(d:a=true)(j:b=true):(a&&b)=true:=by rw[d,j];rfl
set_option maxRecDepth 100000 in
theorem onboardKeeps_closed:joinedFacts aj 5 f5 Rows.onboardKeepsSpec Rows.onboardKeepsRow=true:=by
 unfold joinedFacts;repeat'(with_reducible refine alh ?_ ?_)
 all_goals(as_aux_lemma=>kernel_rfl)
theorem Ht:Rows.OnboardKeepsSaid:=OpenClaim.holds_of_wide 5 f5 rfl rfl rfl rfl rfl rfl rfl ⟨rfl,rfl,rfl,rfl,rfl⟩ rfl rfl rfl rfl rfl (by kernel_rfl) func5 onboardKeeps_closed (of_decide_eq_true (by kernel_rfl)) (by unfold Func.isWrapper;rw[if_neg (of_decide_eq_false (by kernel_rfl))];exact⟨rfl,rfl⟩) (λos j d enc _=>onboardKeeps_lifted os j d enc)
theorem onboardKeeps_holds:Rows.OnboardKeepsCardSaid:=
  Claim7.holds_tied_plain_at .later [] [.data] true (true, "68c2e46eb419703c32987462948d86b2fde350a0bc80ecb030acb8bc56f72811") true
    Ht (λ_ h=>by cases h) (by kernel_rfl) (λ_ h=>by cases h) onboardKeeps_row_tie rfl ⟨rfl,rfl⟩ (by kernel_rfl) rfl
    (λf j J K=> by
      obtain rfl:f=5:=Option.some.inj ((show aj.funcNamed Rows.onboardKeepsRow.func=some 5 by kernel_rfl).symm.trans J) |>.symm
      obtain rfl:j=f5:=(Option.some.inj (Tryz.func5.symm.trans K)).symm
      exact ⟨by kernel_rfl, λM t d=> by
        rw[params5]at d
        have hm:t∈ [27,44,48,3]:=by simpa using Array.mem_of_getElem? d
        have H:([27,44,48,3].all λu=> !aj.wantsStandIn u)=true:=by kernel_rfl
        exact(show aj.wantsStandIn t=false by simpa using List.all_eq_true.1 H t hm)⟩)
    (by kernel_rfl)
end
end Go.Proofs.YthnmgjngniciaaaGreatDoor
