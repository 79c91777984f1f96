/- MacDerives: any key and two words make the key that the document says. -/
import Derived.Test.YtildoeladlflpaaAwake8
import Derived.Test.YtildoeladlflpaaLawAid
import Derived.Test.YtildoeladlflpaaKin
import Derived.Test.YtildoeladlflpaaKeyEq
import Derived.Test.YtildoeladlflpaaRef8
namespace Go.Proofs.Ytildoeladlflpaa
open Go.ChangeShapes Go.WideShapes Go.ChangeAt Go.RowKit
open Go.ChangeMaps (open_string shut_string)

set_option maxHeartbeats 1000000 in
theorem macDerives_walk (k : K4) (x y : BitVec 32) (w : World) : Calls Try.prog 6 #[.agg #[q32 k.k0, q32 k.k1, q32 k.k2, q32 k.k3], q32 x, q32 y] w fun e w' => e = .returned (.bool true) ∧ Below w.heap.size w w' := by
  have gk := eqGuard_key
  have q1 := run_eql_key (Derive k x y) (Derive k x y)
  rw [decide_eq_true rfl] at q1
  go_enter Try.func6, Try.ntmps6
  go_wp2_with (go_at_call 8; (with_reducible refine (awake8_any _).mono ?_); rintro e w1 ⟨rfl, hb⟩; obtain ⟨hc, _⟩ := bcell hb; have hz : w.heap.size < w1.heap.size := by have := hb.size; simp at this; omega)
  refine wp_region_kin (by kernel_rfl) (by kernel_rfl) ?_
  repeat (go_big_quiet_step ((first | (go_at_call 12; exact kin_call (derive_k _ _ _ _)) | (go_at_call 13; exact kin_call (rderive_k _ _ _ _)))))
  refine wpQuiet_nil ?_
  intro W hW
  replace hW := kin_out hW
  go_wp2
  go_ret
  exact ⟨rfl, below_then (below_of_alloc hb) hW⟩

set_option maxRecDepth 100000 in
theorem macDerives_lifted (os : Os) (started : os.Started) (H : Type) (enc : TypeId × Value → H) :
    ReturnsInHanded {} Try.checked os 6 .any (Rows.macDerivesSpec.pre6 enc Try.prog Try.f6 Rows.macDerivesRow.domain false) (Rows.macDerivesSpec.post enc Try.prog Try.f6 false true false false) := by
  refine returnsInHanded_of_change (C := Try.checked) own started (by kernel_rfl) Try.func6
    (ChangeSpec.witness6 (enc := enc) (C := Try.checked) false ⟨#[], #[.agg #[.int .u32 0, .int .u32 0, .int .u32 0, .int .u32 0], .int .u32 0, .int .u32 0], []⟩ 8 (by kernel_rfl) (by kernel_rfl) (by kernel_rfl) (by kernel_rfl)) ?_
  intro W base args ds gs before hval0 hW hcnd _
  have hval : ∀ (j : Nat) t v, Try.f6.params[j]? = some t → args[j]? = some v → Value.okWide Try.prog W .any base t v := hval0
  have hW' := hW
  obtain ⟨p, q, hA0, hV, rfl, hfz, hnd⟩ := hW
  have hA : DataW.TrodAll enc Try.prog W 0 (fun _ => true) true Try.f6.params.toList args.toList ds p := hA0
  rw [Try.params6] at hA hval
  obtain ⟨v0, vs0, d0, ds0, p0, q0, hargs, rfl, rfl, h0, r0⟩ := trodAll_cons hA
  obtain ⟨v1, vs1, d1, ds1, p1, q1, rfl, rfl, rfl, h1, r1⟩ := trodAll_cons r0
  obtain ⟨v2, vs2, d2, ds2, p2, q2, rfl, rfl, rfl, h2, r2⟩ := trodAll_cons r1
  obtain ⟨rfl, rfl, rfl⟩ := trodAll_nil r2
  obtain rfl : args = #[v0, v1, v2] := by cases args; simp_all
  obtain ⟨rfl, rfl⟩ := trodVars_none hV
  have k0 := h0
  have lt0 : ∀ x ∈ p0, x.block < W.heap.size := by obtain ⟨m, hm⟩ := k0; exact DataW.trod_lt m _ _ _ hm
  have k1 := h1
  have lt1 : ∀ x ∈ p1, x.block < W.heap.size := by obtain ⟨m, hm⟩ := k1; exact DataW.trod_lt m _ _ _ hm
  have k2 := h2
  have lt2 : ∀ x ∈ p2, x.block < W.heap.size := by obtain ⟨m, hm⟩ := k2; exact DataW.trod_lt m _ _ _ hm
  obtain ⟨a0, rfl⟩ := open_key (hval 0 24 v0 rfl rfl) h0
  obtain ⟨a1, rfl⟩ := open_q32 (hval 1 22 v1 rfl rfl) h1
  obtain ⟨a2, rfl⟩ := open_q32 (hval 2 22 v2 rfl rfl) h2
  clear hA0 hval0
  refine (macDerives_walk a0 a1 a2 W).mono fun e W' ⟨he, bel⟩ => ?_
  subst he
  exact ⟨_, rfl, _, _, _, [], _, [], hW', trodAll_mk1 (shut_bool Try.underlying4 _), (trodAll_cons_mk (Below.trod laidOut (by kernel_rfl) (of_decide_eq_true (by kernel_rfl)) k0 bel lt0) (trodAll_cons_mk (Below.trod laidOut (by kernel_rfl) (of_decide_eq_true (by kernel_rfl)) k1 bel lt1) (trodAll_cons_mk (Below.trod laidOut (by kernel_rfl) (of_decide_eq_true (by kernel_rfl)) k2 bel lt2) trodAll_mk0))), rfl, bel.frame _, fun h => by cases h⟩

theorem macDerives_over : Rows.macDerivesRow.holds Try.pinned (OpenSpec.ofChange Rows.macDerivesSpec) :=
  OpenClaim.holds_of_wide 6 Try.f6 rfl rfl rfl rfl rfl rfl rfl ⟨rfl, rfl, rfl, rfl, rfl⟩ rfl rfl rfl rfl rfl (by kernel_rfl) Try.func6 (by kernel_rfl)
    (of_decide_eq_true (by kernel_rfl)) (by unfold Func.isWrapper; rw [if_neg (of_decide_eq_false (by kernel_rfl))]; exact ⟨rfl, rfl⟩)
    (fun os started H enc _ => macDerives_lifted os started H enc)

/-- THE STATEMENT. -/
theorem macDerives_holds : Rows.MacDerivesSaid := macDerives_over
end Go.Proofs.Ytildoeladlflpaa
