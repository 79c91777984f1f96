/- OdoTotal: of any two just one is less, or they are at one place; what is less than what is less is less. -/
import Derived.Test.YtoneofdihknnoaaOdoIn
set_option linter.unusedSimpArgs false
set_option linter.unusedVariables false
namespace Go.Proofs.Ytoneofdihknnoaa
open Go.ChangeShapes Go.WideShapes Go.ChangeAt Go.RowKit

theorem odoTotal_walk (a b c : Nat) (w : World) (ha : a < 2 ^ 64) (hb : b < 2 ^ 64) (hc : c < 2 ^ 64) : Calls Try.prog 7 #[.float .f64 a, .float .f64 b, .float .f64 c] w fun e w' => e = .returned (.bool true) ∧ Below w.heap.size w w' := by
  have hab := fun W => odless_k a b W ha hb
  have hba := fun W => odless_k b a W hb ha
  have hac := fun W => odless_k a c W ha hc
  have hbc := fun W => odless_k b c W hb hc
  have haa := fun W => odless_k a a W ha ha
  have sab := fun W => odsame_k a b W ha hb
  have saa := fun W => odsame_k a a W ha ha
  rw [decide_eq_false (show ¬ placeV a < placeV a by omega)] at haa
  rw [decide_eq_true (rfl : placeV a = placeV a)] at saa
  clear ha hb hc
  generalize placeV a = pa at *
  generalize placeV b = pb at *
  generalize placeV c = pc at *
  rcases Int.lt_trichotomy pa pb with g1 | g1 | g1
  · rw [decide_eq_true g1] at hab
    rw [decide_eq_false (show ¬ pb < pa by omega)] at hba
    rw [decide_eq_false (show ¬ pa = pb by omega)] at sab
    by_cases g2 : pb < pc
    · rw [decide_eq_true g2] at hbc
      rw [decide_eq_true (show pa < pc by omega)] at hac
      clear g1 g2
      go_enter Try.func7, Try.ntmps7
      go_wp2_with (first
        | (go_at_call 9; (with_reducible refine (awake4_any _).mono ?_); rintro e w1 ⟨rfl, hb1⟩)
        | (go_at_call 14; (first | (with_reducible refine (hab _).mono ?_) | (with_reducible refine (hba _).mono ?_) | (with_reducible refine (hac _).mono ?_) | (with_reducible refine (hbc _).mono ?_) | (with_reducible refine (haa _).mono ?_)); rintro e w2 ⟨rfl, rfl⟩)
        | (go_at_call 16; (first | (with_reducible refine (sab _).mono ?_) | (with_reducible refine (saa _).mono ?_)); rintro e w2 ⟨rfl, rfl⟩))
      go_ret
      exact ⟨rfl, hb1⟩
    · rw [decide_eq_false g2] at hbc
      generalize decide (pa < pc) = d at hac
      clear g1 g2
      go_enter Try.func7, Try.ntmps7
      go_wp2_with (first
        | (go_at_call 9; (with_reducible refine (awake4_any _).mono ?_); rintro e w1 ⟨rfl, hb1⟩)
        | (go_at_call 14; (first | (with_reducible refine (hab _).mono ?_) | (with_reducible refine (hba _).mono ?_) | (with_reducible refine (hac _).mono ?_) | (with_reducible refine (hbc _).mono ?_) | (with_reducible refine (haa _).mono ?_)); rintro e w2 ⟨rfl, rfl⟩)
        | (go_at_call 16; (first | (with_reducible refine (sab _).mono ?_) | (with_reducible refine (saa _).mono ?_)); rintro e w2 ⟨rfl, rfl⟩))
      go_ret
      exact ⟨rfl, hb1⟩
  · subst g1
    rw [decide_eq_false (show ¬ pa < pa by omega)] at hab hba
    rw [decide_eq_true (rfl : pa = pa)] at sab
    generalize decide (pa < pc) = d at hac hbc
    cases d <;> (
    go_enter Try.func7, Try.ntmps7
    go_wp2_with (first
      | (go_at_call 9; (with_reducible refine (awake4_any _).mono ?_); rintro e w1 ⟨rfl, hb1⟩)
      | (go_at_call 14; (first | (with_reducible refine (hab _).mono ?_) | (with_reducible refine (hba _).mono ?_) | (with_reducible refine (hac _).mono ?_) | (with_reducible refine (hbc _).mono ?_) | (with_reducible refine (haa _).mono ?_)); rintro e w2 ⟨rfl, rfl⟩)
      | (go_at_call 16; (first | (with_reducible refine (sab _).mono ?_) | (with_reducible refine (saa _).mono ?_)); rintro e w2 ⟨rfl, rfl⟩))
    go_ret
    exact ⟨rfl, hb1⟩
    )
  · rw [decide_eq_true g1] at hba
    rw [decide_eq_false (show ¬ pa < pb by omega)] at hab
    rw [decide_eq_false (show ¬ pa = pb by omega)] at sab
    clear g1 hbc hac
    have hbc := hab
    have hac := hab
    go_enter Try.func7, Try.ntmps7
    go_wp2_with (first
      | (go_at_call 9; (with_reducible refine (awake4_any _).mono ?_); rintro e w1 ⟨rfl, hb1⟩)
      | (go_at_call 14; (first | (with_reducible refine (hab _).mono ?_) | (with_reducible refine (hba _).mono ?_) | (with_reducible refine (hac _).mono ?_) | (with_reducible refine (hbc _).mono ?_) | (with_reducible refine (haa _).mono ?_)); rintro e w2 ⟨rfl, rfl⟩)
      | (go_at_call 16; (first | (with_reducible refine (sab _).mono ?_) | (with_reducible refine (saa _).mono ?_)); rintro e w2 ⟨rfl, rfl⟩))
    go_ret
    exact ⟨rfl, hb1⟩
set_option maxRecDepth 100000 in
theorem odoTotal_lifted (os : Os) (started : os.Started) (H : Type) (enc : TypeId × Value → H) :
    ReturnsInHanded {} Try.checked os 7 .any (Rows.odoTotalSpec.pre6 enc Try.prog Try.f7 Rows.odoTotalRow.domain false) (Rows.odoTotalSpec.post enc Try.prog Try.f7 false true false false) := by
  refine returnsInHanded_of_change (C := Try.checked) own started (by kernel_rfl) Try.func7
    (ChangeSpec.witness6 (enc := enc) (C := Try.checked) false ⟨#[], #[.float .f64 0, .float .f64 0, .float .f64 0], []⟩ 8 (by kernel_rfl) (by kernel_rfl) (by kernel_rfl) (by kernel_rfl)) ?_
  intro W base args ds gs before hval0 hW hcnd _
  have hval : ∀ (j : Nat) t v, Try.f7.params[j]? = some t → args[j]? = some v → Value.okWide Try.prog W .any base t v := hval0
  have hW' := hW
  obtain ⟨p, q, hA0, hV, rfl, hfz, hnd⟩ := hW
  have hA : DataW.TrodAll enc Try.prog W 0 (fun _ => true) true Try.f7.params.toList args.toList ds p := hA0
  rw [Try.params7] at hA hval
  obtain ⟨v0, vs0, d0, ds0, p0, q0, hargs, rfl, rfl, h0, r0⟩ := trodAll_cons hA
  obtain ⟨v1, vs1, d1, ds1, p1, q1, rfl, rfl, rfl, h1, r1⟩ := trodAll_cons r0
  obtain ⟨v2, vs2, d2, ds2, p2, q2, rfl, rfl, rfl, h2, r2⟩ := trodAll_cons r1
  obtain ⟨rfl, rfl, rfl⟩ := trodAll_nil r2
  obtain rfl : args = #[v0, v1, v2] := by cases args; simp_all
  obtain ⟨rfl, rfl⟩ := trodVars_none hV
  have k0 := h0
  have lt0 : ∀ x ∈ p0, x.block < W.heap.size := by obtain ⟨m, hm⟩ := k0; exact DataW.trod_lt m _ _ _ hm
  have k1 := h1
  have lt1 : ∀ x ∈ p1, x.block < W.heap.size := by obtain ⟨m, hm⟩ := k1; exact DataW.trod_lt m _ _ _ hm
  have k2 := h2
  have lt2 : ∀ x ∈ p2, x.block < W.heap.size := by obtain ⟨m, hm⟩ := k2; exact DataW.trod_lt m _ _ _ hm
  obtain ⟨a0, rfl, w0⟩ := open_f64 (hval 0 22 v0 rfl rfl) h0
  obtain ⟨a1, rfl, w1⟩ := open_f64 (hval 1 22 v1 rfl rfl) h1
  obtain ⟨a2, rfl, w2⟩ := open_f64 (hval 2 22 v2 rfl rfl) h2
  clear hA0 hval0
  refine (odoTotal_walk a0 a1 a2 W w0 w1 w2).mono fun e W' ⟨he, bel⟩ => ?_
  subst he
  exact ⟨_, rfl, _, _, _, [], _, [], hW', trodAll_mk1 (shut_bool Try.underlying4 _), (trodAll_cons_mk (Below.trod laidOut (by kernel_rfl) (of_decide_eq_true (by kernel_rfl)) k0 bel lt0) (trodAll_cons_mk (Below.trod laidOut (by kernel_rfl) (of_decide_eq_true (by kernel_rfl)) k1 bel lt1) (trodAll_cons_mk (Below.trod laidOut (by kernel_rfl) (of_decide_eq_true (by kernel_rfl)) k2 bel lt2) trodAll_mk0))), rfl, bel.frame _, fun h => by cases h⟩

theorem odoTotal_over : Rows.odoTotalRow.holds Try.pinned (OpenSpec.ofChange Rows.odoTotalSpec) :=
  OpenClaim.holds_of_wide 7 Try.f7 rfl rfl rfl rfl rfl rfl rfl ⟨rfl, rfl, rfl, rfl, rfl⟩ rfl rfl rfl rfl rfl (by kernel_rfl) Try.func7 (by kernel_rfl)
    (of_decide_eq_true (by kernel_rfl)) (by unfold Func.isWrapper; rw [if_neg (of_decide_eq_false (by kernel_rfl))]; exact ⟨rfl, rfl⟩)
    (fun os started H enc _ => odoTotal_lifted os started H enc)

/-- THE STATEMENT. -/
theorem odoTotal_holds : Rows.OdoTotalSaid := odoTotal_over
end Go.Proofs.Ytoneofdihknnoaa
