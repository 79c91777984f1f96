/- LinkNew: any periods make the link that the document says, or none. -/
import Derived.Test.YtiloammjejggjaaLinkAwake
import Derived.Test.YtiloammjejggjaaLinkSame
import Derived.Test.YtiloammjejggjaaLawAid
set_option linter.unusedSimpArgs false
set_option linter.unusedVariables false
namespace Go.Proofs.Ytiloammjejggjaa
open Go.ChangeShapes Go.WideShapes Go.ChangeAt Go.RowKit
open Go.ChangeMaps (open_string shut_string)

theorem bool_beq_self (b : Bool) : (b == b) = true := by cases b <;> rfl
set_option maxHeartbeats 4000000 in
theorem linkNew_walk (p : Int) (_ : -9223372036854775808 ≤ p) (_ : p ≤ 9223372036854775807) (m : Int) (_ : -9223372036854775808 ≤ m) (_ : m ≤ 9223372036854775807) (q : Int) (_ : -9223372036854775808 ≤ q) (_ : q ≤ 9223372036854775807) (n : Int) (_ : -9223372036854775808 ≤ n) (_ : n ≤ 9223372036854775807) (w : World) :
    Calls Try.prog 3 #[.int .i64 p, .int .i64 m, .int .i64 q, .int .i64 n] w fun e w' => e = .returned (.bool true) ∧ Below w.heap.size w w' := by
  have ha := fun W => lknew_k p m q n W
  have hb := fun W => rlnew_k p m q n W
  have hs := fun W u v => rlsame_u (newL p m q n) u v W
  unfold RetL at ha
  unfold RetR at hb
  have hw0 : (newL p m q n).waits = [] := by unfold newL; split <;> rfl
  generalize newE p m q n = er at *
  obtain ⟨x1, h1⟩ : ∃ x, x = (newL p m q n).period := ⟨_, rfl⟩
  obtain ⟨x2, h2⟩ : ∃ x, x = (newL p m q n).most := ⟨_, rfl⟩
  obtain ⟨x3, h3⟩ : ∃ x, x = (newL p m q n).quiet := ⟨_, rfl⟩
  obtain ⟨x4, h4⟩ : ∃ x, x = (newL p m q n).heard := ⟨_, rfl⟩
  have ha' : ∀ W, Calls Try.prog 9 #[.int .i64 p, .int .i64 m, .int .i64 q, .int .i64 n] W fun e w' => ∃ A c, e = .returned (.tuple #[.agg #[.int .i64 x1, .int .i64 x2, .int .i64 x3, .int .i64 x4, .slice A 0 c], .int .i64 er]) ∧ IsWaits [] (.slice A 0 c) w' ∧ Below W.heap.size W w' := fun W => by
    refine (ha W).mono ?_
    rintro e w' ⟨v, rfl, hv, hb⟩
    obtain ⟨u, rfl, hu⟩ := hv.is
    rw [hw0] at hu
    obtain ⟨A, c, xs, rfl, hr⟩ := hu
    exact ⟨A, c, by rw [h1, h2, h3, h4]; rfl, ⟨A, c, xs, rfl, hr⟩, hb⟩
  have hb' : ∀ W, Calls Try.prog 10 #[.int .i64 p, .int .i64 m, .int .i64 q, .int .i64 n] W fun e w' => ∃ A c, e = .returned (.tuple #[.agg #[.int .i64 x1, .int .i64 x2, .int .i64 x3, .int .i64 x4, .slice A 0 c], .int .i64 er]) ∧ IsWaits [] (.slice A 0 c) w' ∧ Below W.heap.size W w' := fun W => by
    refine (hb W).mono ?_
    rintro e w' ⟨v, rfl, hv, hb⟩
    obtain ⟨u, rfl, hu⟩ := hv
    rw [hw0] at hu
    obtain ⟨A, c, xs, rfl, hr⟩ := hu
    exact ⟨A, c, by rw [h1, h2, h3, h4]; rfl, ⟨A, c, xs, rfl, hr⟩, hb⟩
  rw [← h1, ← h2, ← h3, ← h4, hw0] at hs
  clear ha hb h1 h2 h3 h4 hw0
  go_enter Try.func3, Try.ntmps3
  go_wp2_with (first
    | (go_at_call 8; (with_reducible refine (awake12_any _).mono ?_); rintro e w1 ⟨rfl, hb1⟩; have hO : Own w w1 [] := (Own.nil w).grow hb1)
    | (go_at_call 9; (with_reducible refine (ha' _).mono ?_); rintro e w2 ⟨A2, c2, rfl, hu2, hb2⟩; replace hO := (hO.grow hb2).new0 25 #[.int .i64 x1, .int .i64 x2, .int .i64 x3, .int .i64 x4, .slice A2 0 c2]; replace hu2 := hu2.grow ((Below.refl _ _).alloc (Nat.le_refl _) (.cells #[.int .i64 x1, .int .i64 x2, .int .i64 x3, .int .i64 x4, .slice A2 0 c2] 25)); clear ha')
    | (go_at_call 10; (with_reducible refine (hb' _).mono ?_); rintro e w3 ⟨A3, c3, rfl, hu3, hb3⟩; replace hO := (hO.grow hb3).new1 25 #[.int .i64 x1, .int .i64 x2, .int .i64 x3, .int .i64 x4, .slice A3 0 c3]; replace hu2 := (hu2.grow hb3).grow ((Below.refl _ _).alloc (Nat.le_refl _) (.cells #[.int .i64 x1, .int .i64 x2, .int .i64 x3, .int .i64 x4, .slice A3 0 c3] 25)); replace hu3 := hu3.grow ((Below.refl _ _).alloc (Nat.le_refl _) (.cells #[.int .i64 x1, .int .i64 x2, .int .i64 x3, .int .i64 x4, .slice A3 0 c3] 25)); clear hb')
    | ((with_reducible refine own_loadg0 hO ?_ _ rfl rfl _ Try.underlying25 rfl (by kernel_rfl) ?_); (· first | rfl | (simp [Region.wanted, yielded]; done)))
    | ((with_reducible refine own_loadg1 hO ?_ _ rfl rfl _ Try.underlying25 rfl (by kernel_rfl) ?_); (· first | rfl | (simp [Region.wanted, yielded]; done)))
    | (go_at_call 11; (with_reducible refine (hs _ _ _ hu2 hu3).mono ?_); rintro e w4 ⟨rfl, hb4⟩; replace hO := hO.grow hb4; clear hs)
    )
  go_ret
  exact ⟨rfl, hO.below⟩

set_option maxRecDepth 100000 in
theorem linkNew_lifted (os : Os) (started : os.Started) (H : Type) (enc : TypeId × Value → H) :
    ReturnsInHanded {} Try.checked os 3 .any (Rows.linkNewSpec.pre6 enc Try.prog Try.f3 Rows.linkNewRow.domain false) (Rows.linkNewSpec.post enc Try.prog Try.f3 false true false false) := by
  refine returnsInHanded_of_change (C := Try.checked) own started (by kernel_rfl) Try.func3
    (ChangeSpec.witness6 (enc := enc) (C := Try.checked) false ⟨#[], #[.int .i64 0, .int .i64 0, .int .i64 0, .int .i64 0], []⟩ 8 (by kernel_rfl) (by kernel_rfl) (by kernel_rfl) (by kernel_rfl)) ?_
  intro W base args ds gs before hval0 hW hcnd _
  have hval : ∀ (j : Nat) t v, Try.f3.params[j]? = some t → args[j]? = some v → Value.okWide Try.prog W .any base t v := hval0
  have hW' := hW
  obtain ⟨p, q, hA0, hV, rfl, hfz, hnd⟩ := hW
  have hA : DataW.TrodAll enc Try.prog W 0 (fun _ => true) true Try.f3.params.toList args.toList ds p := hA0
  rw [Try.params3] at hA hval
  obtain ⟨v0, vs0, d0, ds0, p0, q0, hargs, rfl, rfl, h0, r0⟩ := trodAll_cons hA
  obtain ⟨v1, vs1, d1, ds1, p1, q1, rfl, rfl, rfl, h1, r1⟩ := trodAll_cons r0
  obtain ⟨v2, vs2, d2, ds2, p2, q2, rfl, rfl, rfl, h2, r2⟩ := trodAll_cons r1
  obtain ⟨v3, vs3, d3, ds3, p3, q3, rfl, rfl, rfl, h3, r3⟩ := trodAll_cons r2
  obtain ⟨rfl, rfl, rfl⟩ := trodAll_nil r3
  obtain rfl : args = #[v0, v1, v2, v3] := by cases args; simp_all
  obtain ⟨rfl, rfl⟩ := trodVars_none hV
  have k0 := h0
  have lt0 : ∀ x ∈ p0, x.block < W.heap.size := by obtain ⟨m, hm⟩ := k0; exact DataW.trod_lt m _ _ _ hm
  have k1 := h1
  have lt1 : ∀ x ∈ p1, x.block < W.heap.size := by obtain ⟨m, hm⟩ := k1; exact DataW.trod_lt m _ _ _ hm
  have k2 := h2
  have lt2 : ∀ x ∈ p2, x.block < W.heap.size := by obtain ⟨m, hm⟩ := k2; exact DataW.trod_lt m _ _ _ hm
  have k3 := h3
  have lt3 : ∀ x ∈ p3, x.block < W.heap.size := by obtain ⟨m, hm⟩ := k3; exact DataW.trod_lt m _ _ _ hm
  obtain ⟨a0, rfl, _, _, w0⟩ := open_int Try.underlying3 (hval 0 3 v0 rfl rfl) h0
  obtain ⟨a1, rfl, _, _, w1⟩ := open_int Try.underlying3 (hval 1 3 v1 rfl rfl) h1
  obtain ⟨a2, rfl, _, _, w2⟩ := open_int Try.underlying3 (hval 2 3 v2 rfl rfl) h2
  obtain ⟨a3, rfl, _, _, w3⟩ := open_int Try.underlying3 (hval 3 3 v3 rfl rfl) h3
  clear hA0 hval0
  refine (linkNew_walk a0 (bounds_i64 w0).1 (bounds_i64 w0).2 a1 (bounds_i64 w1).1 (bounds_i64 w1).2 a2 (bounds_i64 w2).1 (bounds_i64 w2).2 a3 (bounds_i64 w3).1 (bounds_i64 w3).2 W).mono fun e W' ⟨he, bel⟩ => ?_
  subst he
  exact ⟨_, rfl, _, _, _, [], _, [], hW', trodAll_mk1 (shut_bool Try.underlying4 _), (trodAll_cons_mk (Below.trod laidOut (by kernel_rfl) (of_decide_eq_true (by kernel_rfl)) k0 bel lt0) (trodAll_cons_mk (Below.trod laidOut (by kernel_rfl) (of_decide_eq_true (by kernel_rfl)) k1 bel lt1) (trodAll_cons_mk (Below.trod laidOut (by kernel_rfl) (of_decide_eq_true (by kernel_rfl)) k2 bel lt2) (trodAll_cons_mk (Below.trod laidOut (by kernel_rfl) (of_decide_eq_true (by kernel_rfl)) k3 bel lt3) trodAll_mk0)))), rfl, bel.frame _, fun h => by cases h⟩

theorem linkNew_over : Rows.linkNewRow.holds Try.pinned (OpenSpec.ofChange Rows.linkNewSpec) :=
  OpenClaim.holds_of_wide 3 Try.f3 rfl rfl rfl rfl rfl rfl rfl ⟨rfl, rfl, rfl, rfl, rfl⟩ rfl rfl rfl rfl rfl (by kernel_rfl) Try.func3 (by kernel_rfl)
    (of_decide_eq_true (by kernel_rfl)) (by unfold Func.isWrapper; rw [if_neg (of_decide_eq_false (by kernel_rfl))]; exact ⟨rfl, rfl⟩)
    (fun os started H enc _ => linkNew_lifted os started H enc)

/-- THE STATEMENT. -/
theorem linkNew_holds : Rows.LinkNewSaid := linkNew_over
end Go.Proofs.Ytiloammjejggjaa
