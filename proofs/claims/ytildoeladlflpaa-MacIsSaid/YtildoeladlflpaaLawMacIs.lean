/- MacIs: any bytes have, under any key, the seal that the document says. -/
import Derived.Test.YtildoeladlflpaaAwake8
import Derived.Test.YtildoeladlflpaaBytesIn
import Derived.Test.YtildoeladlflpaaKin
import Derived.Test.YtildoeladlflpaaRef8
namespace Go.Proofs.Ytildoeladlflpaa
open Go.ChangeShapes Go.WideShapes Go.ChangeAt Go.RowKit
open Go.ChangeMaps (open_string shut_string)

set_option maxHeartbeats 1000000 in
theorem macIs_walk (k : K4) (v : Value) (bs : List UInt8) (w : World) (hv : IsBytes bs v w) : Calls Try.prog 3 #[.agg #[q32 k.k0, q32 k.k1, q32 k.k2, q32 k.k3], v] w fun e w' => e = .returned (.bool true) ∧ Below w.heap.size w w' := by
  obtain ⟨A, c, rfl, hB⟩ := hv
  have hl := hB.len_le
  go_enter Try.func3, Try.ntmps3
  go_wp2_with (go_at_call 8; (with_reducible refine (awake8_any _).mono ?_); rintro e w1 ⟨rfl, hb⟩; obtain ⟨hc, _⟩ := bcell hb; have hz : w.heap.size < w1.heap.size := by have := hb.size; simp at this; omega)
  all_goals have hb0 := below_of_alloc hb
  · go_ret
    exact ⟨rfl, hb0⟩
  · have hB1 := hB.below hb0
    refine wp_region_kin (by kernel_rfl) (by kernel_rfl) ?_
    repeat (go_big_quiet_step ((first | (go_at_call 9; exact kin_call (mac_k _ _ _ _ _ (hB1.below (Kin.below _)) (by omega))) | (go_at_call 10; exact kin_call (rmac_k _ _ _ _ _ (hB1.below (Kin.below _)) (by omega))))))
    refine wpQuiet_nil ?_
    intro W hW
    replace hW := kin_out hW
    go_wp2
    go_ret
    exact ⟨rfl, below_then hb0 hW⟩

set_option maxRecDepth 100000 in
theorem macIs_lifted (os : Os) (started : os.Started) (H : Type) (enc : TypeId × Value → H) :
    ReturnsInHanded {} Try.checked os 3 .any (Rows.macIsSpec.pre6 enc Try.prog Try.f3 Rows.macIsRow.domain false) (Rows.macIsSpec.post enc Try.prog Try.f3 false true false false) := by
  refine returnsInHanded_of_change (C := Try.checked) own started (by kernel_rfl) Try.func3
    (ChangeSpec.witness6 (enc := enc) (C := Try.checked) false ⟨#[], #[.agg #[.int .u32 0, .int .u32 0, .int .u32 0, .int .u32 0], .slice none 0 0], []⟩ 8 (by kernel_rfl) (by kernel_rfl) (by kernel_rfl) (by kernel_rfl)) ?_
  intro W base args ds gs before hval0 hW hcnd _
  have hval : ∀ (j : Nat) t v, Try.f3.params[j]? = some t → args[j]? = some v → Value.okWide Try.prog W .any base t v := hval0
  have hW' := hW
  obtain ⟨p, q, hA0, hV, rfl, hfz, hnd⟩ := hW
  have hA : DataW.TrodAll enc Try.prog W 0 (fun _ => true) true Try.f3.params.toList args.toList ds p := hA0
  rw [Try.params3] at hA hval
  obtain ⟨v0, vs0, d0, ds0, p0, q0, hargs, rfl, rfl, h0, r0⟩ := trodAll_cons hA
  obtain ⟨v1, vs1, d1, ds1, p1, q1, rfl, rfl, rfl, h1, r1⟩ := trodAll_cons r0
  obtain ⟨rfl, rfl, rfl⟩ := trodAll_nil r1
  obtain rfl : args = #[v0, v1] := by cases args; simp_all
  obtain ⟨rfl, rfl⟩ := trodVars_none hV
  have k0 := h0
  have lt0 : ∀ x ∈ p0, x.block < W.heap.size := by obtain ⟨m, hm⟩ := k0; exact DataW.trod_lt m _ _ _ hm
  have k1 := h1
  have lt1 : ∀ x ∈ p1, x.block < W.heap.size := by obtain ⟨m, hm⟩ := k1; exact DataW.trod_lt m _ _ _ hm
  obtain ⟨a0, rfl⟩ := open_key (hval 0 24 v0 rfl rfl) h0
  obtain ⟨s1, b1⟩ := open_bytes (hval 1 25 v1 rfl rfl) h1
  clear hA0 hval0
  refine (macIs_walk a0 v1 s1 W b1).mono fun e W' ⟨he, bel⟩ => ?_
  subst he
  exact ⟨_, rfl, _, _, _, [], _, [], hW', trodAll_mk1 (shut_bool Try.underlying4 _), (trodAll_cons_mk (Below.trod laidOut (by kernel_rfl) (of_decide_eq_true (by kernel_rfl)) k0 bel lt0) (trodAll_cons_mk (Below.trod laidOut (by kernel_rfl) (of_decide_eq_true (by kernel_rfl)) k1 bel lt1) trodAll_mk0)), rfl, bel.frame _, fun h => by cases h⟩

theorem macIs_over : Rows.macIsRow.holds Try.pinned (OpenSpec.ofChange Rows.macIsSpec) :=
  OpenClaim.holds_of_wide 3 Try.f3 rfl rfl rfl rfl rfl rfl rfl ⟨rfl, rfl, rfl, rfl, rfl⟩ rfl rfl rfl rfl rfl (by kernel_rfl) Try.func3 (by kernel_rfl)
    (of_decide_eq_true (by kernel_rfl)) (by unfold Func.isWrapper; rw [if_neg (of_decide_eq_false (by kernel_rfl))]; exact ⟨rfl, rfl⟩)
    (fun os started H enc _ => macIs_lifted os started H enc)

/-- THE STATEMENT. -/
theorem macIs_holds : Rows.MacIsSaid := macIs_over
end Go.Proofs.Ytildoeladlflpaa
