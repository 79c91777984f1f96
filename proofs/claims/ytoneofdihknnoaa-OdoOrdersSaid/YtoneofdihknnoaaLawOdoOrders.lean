/- OdoOrders: any two readings stand as the document says. -/
import Derived.Test.YtoneofdihknnoaaOdoIn
set_option linter.unusedSimpArgs false
set_option linter.unusedVariables false
namespace Go.Proofs.Ytoneofdihknnoaa
open Go.ChangeShapes Go.WideShapes Go.ChangeAt Go.RowKit

theorem odoOrders_walk (a b : Nat) (w : World) (ha : a < 2 ^ 64) (hb : b < 2 ^ 64) : Calls Try.prog 6 #[.float .f64 a, .float .f64 b] w fun e w' => e = .returned (.bool true) ∧ Below w.heap.size w w' := by
  have h1 := fun W => odless_k a b W ha hb
  have h2 := fun W => odsame_k a b W ha hb
  have h3 := fun W => rodless_k a b W
  have h4 := fun W => rodsame_k a b W
  generalize decide (placeV a < placeV b) = d1 at *
  generalize decide (placeV a = placeV b) = d2 at *
  clear ha hb
  cases d1 <;> cases d2 <;>
  (go_enter Try.func6, Try.ntmps6
   go_wp2_with (first
     | (go_at_call 9; (with_reducible refine (awake4_any _).mono ?_); rintro e w1 ⟨rfl, hb1⟩)
     | (go_at_call 14; (with_reducible refine (h1 _).mono ?_); rintro e w2 ⟨rfl, rfl⟩)
     | (go_at_call 16; (with_reducible refine (h2 _).mono ?_); rintro e w2 ⟨rfl, rfl⟩)
     | (go_at_call 15; (with_reducible refine (h3 _).mono ?_); rintro e w3 ⟨rfl, hb3⟩)
     | (go_at_call 17; (with_reducible refine (h4 _).mono ?_); rintro e w4 ⟨rfl, hb4⟩))
   go_ret
   exact ⟨rfl, hb1.trans ((hb3.mono hb1.size).trans (hb4.mono (Nat.le_trans hb1.size hb3.size)))⟩)
set_option maxRecDepth 100000 in
theorem odoOrders_lifted (os : Os) (started : os.Started) (H : Type) (enc : TypeId × Value → H) :
    ReturnsInHanded {} Try.checked os 6 .any (Rows.odoOrdersSpec.pre6 enc Try.prog Try.f6 Rows.odoOrdersRow.domain false) (Rows.odoOrdersSpec.post enc Try.prog Try.f6 false true false false) := by
  refine returnsInHanded_of_change (C := Try.checked) own started (by kernel_rfl) Try.func6
    (ChangeSpec.witness6 (enc := enc) (C := Try.checked) false ⟨#[], #[.float .f64 0, .float .f64 0], []⟩ 8 (by kernel_rfl) (by kernel_rfl) (by kernel_rfl) (by kernel_rfl)) ?_
  intro W base args ds gs before hval0 hW hcnd _
  have hval : ∀ (j : Nat) t v, Try.f6.params[j]? = some t → args[j]? = some v → Value.okWide Try.prog W .any base t v := hval0
  have hW' := hW
  obtain ⟨p, q, hA0, hV, rfl, hfz, hnd⟩ := hW
  have hA : DataW.TrodAll enc Try.prog W 0 (fun _ => true) true Try.f6.params.toList args.toList ds p := hA0
  rw [Try.params6] at hA hval
  obtain ⟨v0, vs0, d0, ds0, p0, q0, hargs, rfl, rfl, h0, r0⟩ := trodAll_cons hA
  obtain ⟨v1, vs1, d1, ds1, p1, q1, rfl, rfl, rfl, h1, r1⟩ := trodAll_cons r0
  obtain ⟨rfl, rfl, rfl⟩ := trodAll_nil r1
  obtain rfl : args = #[v0, v1] := by cases args; simp_all
  obtain ⟨rfl, rfl⟩ := trodVars_none hV
  have k0 := h0
  have lt0 : ∀ x ∈ p0, x.block < W.heap.size := by obtain ⟨m, hm⟩ := k0; exact DataW.trod_lt m _ _ _ hm
  have k1 := h1
  have lt1 : ∀ x ∈ p1, x.block < W.heap.size := by obtain ⟨m, hm⟩ := k1; exact DataW.trod_lt m _ _ _ hm
  obtain ⟨a0, rfl, w0⟩ := open_f64 (hval 0 22 v0 rfl rfl) h0
  obtain ⟨a1, rfl, w1⟩ := open_f64 (hval 1 22 v1 rfl rfl) h1
  clear hA0 hval0
  refine (odoOrders_walk a0 a1 W w0 w1).mono fun e W' ⟨he, bel⟩ => ?_
  subst he
  exact ⟨_, rfl, _, _, _, [], _, [], hW', trodAll_mk1 (shut_bool Try.underlying4 _), (trodAll_cons_mk (Below.trod laidOut (by kernel_rfl) (of_decide_eq_true (by kernel_rfl)) k0 bel lt0) (trodAll_cons_mk (Below.trod laidOut (by kernel_rfl) (of_decide_eq_true (by kernel_rfl)) k1 bel lt1) trodAll_mk0)), rfl, bel.frame _, fun h => by cases h⟩

theorem odoOrders_over : Rows.odoOrdersRow.holds Try.pinned (OpenSpec.ofChange Rows.odoOrdersSpec) :=
  OpenClaim.holds_of_wide 6 Try.f6 rfl rfl rfl rfl rfl rfl rfl ⟨rfl, rfl, rfl, rfl, rfl⟩ rfl rfl rfl rfl rfl (by kernel_rfl) Try.func6 (by kernel_rfl)
    (of_decide_eq_true (by kernel_rfl)) (by unfold Func.isWrapper; rw [if_neg (of_decide_eq_false (by kernel_rfl))]; exact ⟨rfl, rfl⟩)
    (fun os started H enc _ => odoOrders_lifted os started H enc)

/-- THE STATEMENT. -/
theorem odoOrders_holds : Rows.OdoOrdersSaid := odoOrders_over
end Go.Proofs.Ytoneofdihknnoaa
