/- THE LAW -/
import Derived.Test.YthnmgjngniciaaaGreatDoorV11
import Derived.Test.YthnmgjngniciaaaGreatDoorTie
import Derived.Test.YthnmgjngniciaaaGreatDoorCards
set_option linter.all false
set_option maxHeartbeats 16000000
set_option maxRecDepth 8000
namespace Go.Proofs.YthnmgjngniciaaaGreatDoor
open Go.RowKit Go.Shelf Go.Proofs.Tryz
open Go.Proofs.Tryz renaming prog->aj,underlying3->bG,underlying4->dL
section
open Go.ChangeShapes Go.WideShapes Go.ChangeAt Go.RowKit Go.Shelf
open Go.ChangeMaps (open_string shut_string)
def asC:List (String × DataW Unit):= [("lineside/vars.widths",Rows.laid_lineside_vars_widths)]
theorem asH(os:Os)(args:Array Value):laidMetH aj asC ((World.doorLaid aj 4000 os).forCall (λ_ _=>0) ⟨#[],args,[]⟩).memory:=laidMetH_of_parts3 (fuel:=8) (laidMet_of_run' 8 (by kernel_rfl) (by kernel_rfl)) (by kernel_rfl) (by kernel_rfl)
set_option maxRecDepth 100000 in
theorem onboardTwice_lifted(os:Os)(ai:os.Started)(aa:Type)(enc:TypeId × Value->aa):ReturnsInHanded {} checked os 4 .any (λw args=>(Rows.onboardTwiceSpec.pre enc aj f4 [] false w args/\laidMetH aj asC w)/\sizedMet enc aj f4 (OpenSpec.ofChange Rows.onboardTwiceSpec) false w args) (Rows.onboardTwiceSpec.post enc aj f4 false true false false):=by
 refine returnsInHanded_of_change_and (C:=checked) (X:=λw _=>laidMetH aj asC w) (λ_ _ _ hh h=>h.of_heap hh) own ai (by kernel_rfl) func4 (ChangeSpec.witness_shaped (enc:=enc) (C:=checked) (os:=os) (X:=λw _=>laidMetH aj asC w) false (World.doorLaid aj 4000 os) #[.agg #[.slice none 0 0,.slice none 0 0,.slice none 0 0,.slice none 0 0],.agg gL,.slice none 0 0,.int .i64 0] 8 rfl (World.shaped_of_RefB (by kernel_rfl) (by kernel_rfl)) (by kernel_rfl) (by kernel_rfl) (by kernel_rfl) (asH os _)) ?_;intro W base args ds gs ak V U _ _ hL _;have H: ∀(Y:Nat) t v,Tryz.f4.params[Y]? =some t->args[Y]? =some v->Value.okWide aj W .any base t v:=V;have ac:=U;obtain⟨p,q,Q,hV,rfl,ar,au⟩:=U;have hA:DataW.TrodAll enc aj W 0 (λ_=>true) true Tryz.f4.params.toList args.toList ds p:=Q;rw[params4]at hA H;obtain⟨Z,av,d0,al,p0,q0,aq,rfl,rfl,K,r0⟩:=trodAll_cons hA;obtain⟨v1,aw,d1,am,p1,q1,rfl,rfl,rfl,M,r1⟩:=trodAll_cons r0;obtain⟨J,ax,d2,an,p2,q2,rfl,rfl,rfl,N,r2⟩:=trodAll_cons r1;obtain⟨v3,az,d3,ap,p3,q3,rfl,rfl,rfl,O,r3⟩:=trodAll_cons r2;obtain⟨rfl,rfl,rfl⟩:=trodAll_nil r3;obtain rfl:args= #[Z,v1,J,v3]:=by cases args;simp_all
 obtain⟨rfl,rfl⟩:=trodVars_none hV;have k0:=K;have ad: ∀x∈p0,x.block<W.heap.size:=by obtain⟨m,hm⟩:=k0;exact DataW.trod_lt m _ _ _ hm
 have k1:=M;have ae: ∀x∈p1,x.block<W.heap.size:=by obtain⟨m,hm⟩:=k1;exact DataW.trod_lt m _ _ _ hm
 have k2:=N;have af: ∀x∈p2,x.block<W.heap.size:=by obtain⟨m,hm⟩:=k2;exact DataW.trod_lt m _ _ _ hm
 have k3:=O;have ag: ∀x∈p3,x.block<W.heap.size:=by obtain⟨m,hm⟩:=k3;exact DataW.trod_lt m _ _ _ hm
 obtain⟨s0,rfl,b0⟩:=abe (H 0 27 Z rfl rfl) K;obtain⟨s1,rfl,b1⟩:=X5 (H 1 44 v1 rfl rfl) M;obtain⟨s2,b2⟩:=ar1 (H 2 45 J rfl rfl) N;obtain⟨a3,rfl,_,_,w3⟩:=open_int bG (H 3 3 v3 rfl rfl) O;clear Q V;refine(asZ s0 s1 J s2 a3 (bounds_i64 w3).1 (bounds_i64 w3).2 W b0 b1 b2 hL).mono λe W' ⟨he,j⟩=>?_;subst he;exact⟨_,rfl,_,_,_,[],_,[],ac,trodAll_mk1 (shut_bool dL _),(trodAll_cons_mk (Below.trod arG (by kernel_rfl) (of_decide_eq_true (by kernel_rfl)) k0 j ad) (trodAll_cons_mk (Below.trod arG (by kernel_rfl) (of_decide_eq_true (by kernel_rfl)) k1 j ae) (trodAll_cons_mk (Below.trod arG (by kernel_rfl) (of_decide_eq_true (by kernel_rfl)) k2 j af) (trodAll_cons_mk (Below.trod arG (by kernel_rfl) (of_decide_eq_true (by kernel_rfl)) k3 j ag) trodAll_mk0)))),rfl,j.frame _,λh=>by cases h⟩
theorem alh{a b:Bool}(j:a=true)(H:b=true):(a&&b)=true:=by rw[j,H];rfl
set_option maxRecDepth 100000 in
theorem onboardTwice_closed:joinedFacts aj 4 f4 Rows.onboardTwiceSpec Rows.onboardTwiceRow=true:=by
 unfold joinedFacts;repeat'(with_reducible refine alh ?_ ?_)
 all_goals(as_aux_lemma=>kernel_rfl)
theorem asI:Rows.OnboardTwiceSaid:=OpenClaim.holds_of_wide 4 f4 rfl rfl rfl rfl rfl rfl rfl ⟨rfl,rfl,rfl,rfl,rfl⟩ rfl rfl rfl rfl rfl (by kernel_rfl) func4 onboardTwice_closed (of_decide_eq_true (by kernel_rfl)) (by unfold Func.isWrapper;rw[if_neg (of_decide_eq_false (by kernel_rfl))];exact⟨rfl,rfl⟩) (λos H j enc _=>onboardTwice_lifted os H j enc)
theorem onboardTwice_holds:Rows.OnboardTwiceCardSaid:=
  Claim7.holds_tied_plain_at .later [] [.data] true (true, "68c2e46eb419703c32987462948d86b2fde350a0bc80ecb030acb8bc56f72811") true
    asI (λ_ h=>by cases h) (by kernel_rfl) (λ_ h=>by cases h) onboardTwice_row_tie rfl ⟨rfl,rfl⟩ (by kernel_rfl) rfl
    (λf H K M=> by
      obtain rfl:f=4:=Option.some.inj ((show aj.funcNamed Rows.onboardTwiceRow.func=some 4 by kernel_rfl).symm.trans K) |>.symm
      obtain rfl:H=f4:=(Option.some.inj (Tryz.func4.symm.trans M)).symm
      exact ⟨by kernel_rfl, λN t j=> by
        rw[params4]at j
        have hm:t∈ [27,44,45,3]:=by simpa using Array.mem_of_getElem? j
        have J:([27,44,45,3].all λu=> !aj.wantsStandIn u)=true:=by kernel_rfl
        exact(show aj.wantsStandIn t=false by simpa using List.all_eq_true.1 J t hm)⟩)
    (by kernel_rfl)
end
end Go.Proofs.YthnmgjngniciaaaGreatDoor
