/- MacApart: under one key no two pairs of words make one key. -/
import Derived.Test.YtildoeladlflpaaAwake8
import Derived.Test.YtildoeladlflpaaLawAid
import Derived.Test.YtildoeladlflpaaKin
import Derived.Test.YtildoeladlflpaaKeyEq
namespace Go.Proofs.Ytildoeladlflpaa
open Go.ChangeShapes Go.WideShapes Go.ChangeAt Go.RowKit
open Go.ChangeMaps (open_string shut_string)

theorem derive_eq (k : K4) (x y p q : BitVec 32) : decide (Derive k x y = Derive k p q) = (x == p && y == q) := by
  rw [Bool.eq_iff_iff]
  simp [derive_inj]
set_option maxHeartbeats 1000000 in
theorem macApart_walk (k : K4) (x y p q : BitVec 32) (w : World) : Calls Try.prog 7 #[.agg #[q32 k.k0, q32 k.k1, q32 k.k2, q32 k.k3], q32 x, q32 y, q32 p, q32 q] w fun e w' => e = .returned (.bool true) ∧ Below w.heap.size w w' := by
  have gk := eqGuard_key
  have q1 := run_eql_key (Derive k x y) (Derive k p q)
  rw [derive_eq] at q1
  obtain ⟨b1, h1⟩ : ∃ b, (x == p) = b := ⟨_, rfl⟩
  obtain ⟨b2, h2⟩ : ∃ b, (y == q) = b := ⟨_, rfl⟩
  go_enter Try.func7, Try.ntmps7
  go_wp2_with (go_at_call 8; (with_reducible refine (awake8_any _).mono ?_); rintro e w1 ⟨rfl, hb⟩; obtain ⟨hc, _⟩ := bcell hb; have hz : w.heap.size < w1.heap.size := by have := hb.size; simp at this; omega)
  refine wp_region_kin (by kernel_rfl) (by kernel_rfl) ?_
  cases b1 <;> cases b2 <;> rw [h1, h2] at q1
  all_goals
    repeat (go_big_quiet_step ((first | (go_at_call 12; exact kin_call (derive_k _ _ _ _)))))
    refine wpQuiet_nil ?_
    intro W hW
    replace hW := kin_out hW
    go_wp2
    go_ret
    exact ⟨rfl, below_then (below_of_alloc hb) hW⟩

set_option maxRecDepth 100000 in
theorem macApart_lifted (os : Os) (started : os.Started) (H : Type) (enc : TypeId × Value → H) :
    ReturnsInHanded {} Try.checked os 7 .any (Rows.macApartSpec.pre6 enc Try.prog Try.f7 Rows.macApartRow.domain false) (Rows.macApartSpec.post enc Try.prog Try.f7 false true false false) := by
  refine returnsInHanded_of_change (C := Try.checked) own started (by kernel_rfl) Try.func7
    (ChangeSpec.witness6 (enc := enc) (C := Try.checked) false ⟨#[], #[.agg #[.int .u32 0, .int .u32 0, .int .u32 0, .int .u32 0], .int .u32 0, .int .u32 0, .int .u32 0, .int .u32 0], []⟩ 8 (by kernel_rfl) (by kernel_rfl) (by kernel_rfl) (by kernel_rfl)) ?_
  intro W base args ds gs before hval0 hW hcnd _
  have hval : ∀ (j : Nat) t v, Try.f7.params[j]? = some t → args[j]? = some v → Value.okWide Try.prog W .any base t v := hval0
  have hW' := hW
  obtain ⟨p, q, hA0, hV, rfl, hfz, hnd⟩ := hW
  have hA : DataW.TrodAll enc Try.prog W 0 (fun _ => true) true Try.f7.params.toList args.toList ds p := hA0
  rw [Try.params7] at hA hval
  obtain ⟨v0, vs0, d0, ds0, p0, q0, hargs, rfl, rfl, h0, r0⟩ := trodAll_cons hA
  obtain ⟨v1, vs1, d1, ds1, p1, q1, rfl, rfl, rfl, h1, r1⟩ := trodAll_cons r0
  obtain ⟨v2, vs2, d2, ds2, p2, q2, rfl, rfl, rfl, h2, r2⟩ := trodAll_cons r1
  obtain ⟨v3, vs3, d3, ds3, p3, q3, rfl, rfl, rfl, h3, r3⟩ := trodAll_cons r2
  obtain ⟨v4, vs4, d4, ds4, p4, q4, rfl, rfl, rfl, h4, r4⟩ := trodAll_cons r3
  obtain ⟨rfl, rfl, rfl⟩ := trodAll_nil r4
  obtain rfl : args = #[v0, v1, v2, v3, v4] := by cases args; simp_all
  obtain ⟨rfl, rfl⟩ := trodVars_none hV
  have k0 := h0
  have lt0 : ∀ x ∈ p0, x.block < W.heap.size := by obtain ⟨m, hm⟩ := k0; exact DataW.trod_lt m _ _ _ hm
  have k1 := h1
  have lt1 : ∀ x ∈ p1, x.block < W.heap.size := by obtain ⟨m, hm⟩ := k1; exact DataW.trod_lt m _ _ _ hm
  have k2 := h2
  have lt2 : ∀ x ∈ p2, x.block < W.heap.size := by obtain ⟨m, hm⟩ := k2; exact DataW.trod_lt m _ _ _ hm
  have k3 := h3
  have lt3 : ∀ x ∈ p3, x.block < W.heap.size := by obtain ⟨m, hm⟩ := k3; exact DataW.trod_lt m _ _ _ hm
  have k4 := h4
  have lt4 : ∀ x ∈ p4, x.block < W.heap.size := by obtain ⟨m, hm⟩ := k4; exact DataW.trod_lt m _ _ _ hm
  obtain ⟨a0, rfl⟩ := open_key (hval 0 24 v0 rfl rfl) h0
  obtain ⟨a1, rfl⟩ := open_q32 (hval 1 22 v1 rfl rfl) h1
  obtain ⟨a2, rfl⟩ := open_q32 (hval 2 22 v2 rfl rfl) h2
  obtain ⟨a3, rfl⟩ := open_q32 (hval 3 22 v3 rfl rfl) h3
  obtain ⟨a4, rfl⟩ := open_q32 (hval 4 22 v4 rfl rfl) h4
  clear hA0 hval0
  refine (macApart_walk a0 a1 a2 a3 a4 W).mono fun e W' ⟨he, bel⟩ => ?_
  subst he
  exact ⟨_, rfl, _, _, _, [], _, [], hW', trodAll_mk1 (shut_bool Try.underlying4 _), (trodAll_cons_mk (Below.trod laidOut (by kernel_rfl) (of_decide_eq_true (by kernel_rfl)) k0 bel lt0) (trodAll_cons_mk (Below.trod laidOut (by kernel_rfl) (of_decide_eq_true (by kernel_rfl)) k1 bel lt1) (trodAll_cons_mk (Below.trod laidOut (by kernel_rfl) (of_decide_eq_true (by kernel_rfl)) k2 bel lt2) (trodAll_cons_mk (Below.trod laidOut (by kernel_rfl) (of_decide_eq_true (by kernel_rfl)) k3 bel lt3) (trodAll_cons_mk (Below.trod laidOut (by kernel_rfl) (of_decide_eq_true (by kernel_rfl)) k4 bel lt4) trodAll_mk0))))), rfl, bel.frame _, fun h => by cases h⟩

theorem macApart_over : Rows.macApartRow.holds Try.pinned (OpenSpec.ofChange Rows.macApartSpec) :=
  OpenClaim.holds_of_wide 7 Try.f7 rfl rfl rfl rfl rfl rfl rfl ⟨rfl, rfl, rfl, rfl, rfl⟩ rfl rfl rfl rfl rfl (by kernel_rfl) Try.func7 (by kernel_rfl)
    (of_decide_eq_true (by kernel_rfl)) (by unfold Func.isWrapper; rw [if_neg (of_decide_eq_false (by kernel_rfl))]; exact ⟨rfl, rfl⟩)
    (fun os started H enc _ => macApart_lifted os started H enc)

/-- THE STATEMENT. -/
theorem macApart_holds : Rows.MacApartSaid := macApart_over
end Go.Proofs.Ytildoeladlflpaa
