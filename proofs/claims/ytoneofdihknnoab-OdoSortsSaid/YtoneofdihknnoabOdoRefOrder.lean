/- The document's Less and Same. -/
import Derived.Test.YtoneofdihknnoabOdoOrder
set_option linter.unusedSimpArgs false
set_option linter.unusedVariables false
namespace Go.Proofs.Ytoneofdihknnoab
open Go.RowKit Ieee

theorem rodless_k (a b : Nat) (w : World) : Calls Try.prog 19 #[.float .f64 a, .float .f64 b] w fun e w' => e = .returned (.bool (decide (placeV a < placeV b))) ∧ Below w.heap.size w w' := by
  have hna := fun W => rodnone_k a W
  have hnb := fun W => rodnone_k b W
  have hba := fun W => rodbelow_k a W
  have hbb := fun W => rodbelow_k b W
  have hza := cmp_zero a
  have hzb := cmp_zero b
  have hab : FloatKind.f64.format.order a b = cmpK a b := order_is _ _
  have hbp := big_pos
  have hbe := Below.refl w.heap.size w
  obtain ⟨v, hv⟩ : ∃ v, decide (placeV a < placeV b) = v := ⟨_, rfl⟩
  rw [hv]
  cases ha : isNan a with
  | true =>
    rw [ha] at hna
    have pa : placeV a = 4 * big := by unfold placeV; rw [if_pos ha]
    obtain rfl : v = false := by
      rw [← hv, decide_eq_false_iff_not, pa]
      unfold placeV
      by_cases hb : isNan b = true
      · rw [if_pos hb]; omega
      · rw [if_neg hb]
        obtain ⟨b1, b2⟩ := key_bounds b (by simpa using hb)
        have := rank_bounds b
        omega
    generalize isNan b = nb at *
    clear hza hzb hab hv pa hbp
    cases nb <;>
    (go_enter Try.func19, Try.ntmps19
     go_wp2_with (
       (first
         | (go_at_call 20; (first | (with_reducible refine (hna _).mono ?_) | (with_reducible refine (hnb _).mono ?_)); rintro e w1 ⟨rfl, rfl⟩)
         | (go_at_call 28; (first | (with_reducible refine (hba _).mono ?_; rintro e w2 ⟨rfl, hb2⟩) | (with_reducible refine (hbb _).mono ?_; rintro e w3 ⟨rfl, hb3⟩))))
       )
     go_ret
     exact ⟨rfl, hbe⟩)
  | false =>
    rw [ha] at hna
    rw [ha, if_neg Bool.false_ne_true] at hza
    cases hb : isNan b with
    | true =>
      rw [hb] at hnb
      have pb : placeV b = 4 * big := by unfold placeV; rw [if_pos hb]
      obtain rfl : v = true := by
        rw [← hv, decide_eq_true_eq, pb]
        unfold placeV
        rw [if_neg (by simp [ha])]
        obtain ⟨b1, b2⟩ := key_bounds a ha
        have h2 : rankV a ≤ 0 := by unfold rankV; rw [if_neg (by simp [ha])]; split <;> decide
        omega
      clear hza hzb hab hv pb hbp ha hb
      go_enter Try.func19, Try.ntmps19
      go_wp2_with (
        (first
          | (go_at_call 20; (first | (with_reducible refine (hna _).mono ?_) | (with_reducible refine (hnb _).mono ?_)); rintro e w1 ⟨rfl, rfl⟩)
          | (go_at_call 28; (first | (with_reducible refine (hba _).mono ?_; rintro e w2 ⟨rfl, hb2⟩) | (with_reducible refine (hbb _).mono ?_; rintro e w3 ⟨rfl, hb3⟩))))
        )
      go_ret
      exact ⟨rfl, hbe⟩
    | false =>
      rw [hb] at hnb
      rw [hb, if_neg Bool.false_ne_true] at hzb
      rw [cmp_some _ _ ha hb] at hab
      have pa : placeV a = 2 * key64 a + rankV a := by unfold placeV; rw [if_neg (by simp [ha])]
      have pb : placeV b = 2 * key64 b + rankV b := by unfold placeV; rw [if_neg (by simp [hb])]
      by_cases hz : key64 a = 0 ∧ key64 b = 0
      · obtain ⟨ka, kb⟩ := hz
        rw [Int.compare_eq_eq.2 ka] at hza
        rw [Int.compare_eq_eq.2 kb] at hzb
        have ra : rankV a = if belowV a = true then -1 else 0 := by
          unfold rankV belowV
          rw [ha, ka]
          cases neg64 a <;> simp
        have rb : rankV b = if belowV b = true then -1 else 0 := by
          unfold rankV belowV
          rw [hb, kb]
          cases neg64 b <;> simp
        rw [pa, pb, ra, rb, ka, kb] at hv
        clear hab ha hb pa pb ra rb ka kb hbp
        generalize belowV a = ba at *
        generalize belowV b = bb at *
        have hbels : ∀ w2 w3, Below w.heap.size w w2 → Below w2.heap.size w2 w3 → Below w.heap.size w w3 := fun w2 w3 h2 h3 => h2.trans (h3.mono h2.size)
        cases ba <;> cases bb <;>
        (simp at hv
         subst hv
         go_enter Try.func19, Try.ntmps19
         go_wp2_with (
           (first
             | (go_at_call 20; (first | (with_reducible refine (hna _).mono ?_) | (with_reducible refine (hnb _).mono ?_)); rintro e w1 ⟨rfl, rfl⟩)
             | (go_at_call 28; (first | (with_reducible refine (hba _).mono ?_; rintro e w2 ⟨rfl, hb2⟩) | (with_reducible refine (hbb _).mono ?_; rintro e w3 ⟨rfl, hb3⟩))))
           )
         go_ret
         exact ⟨rfl, hbels _ _ hb2 hb3⟩)
      · obtain rfl : v = decide (key64 a < key64 b) := by
          rw [← hv]
          apply decide_eq_decide.2
          have ra : (rankV a = -1 ∧ key64 a = 0) ∨ rankV a = 0 := by unfold rankV; rw [if_neg (by simp [ha])]; split <;> simp_all
          have rb : (rankV b = -1 ∧ key64 b = 0) ∨ rankV b = 0 := by unfold rankV; rw [if_neg (by simp [hb])]; split <;> simp_all
          omega
        clear hv pa pb ha hb hbp hba hbb
        generalize key64 a = ka at *
        generalize key64 b = kb at *
        obtain ⟨v, hv⟩ : ∃ v, decide (ka < kb) = v := ⟨_, rfl⟩
        rw [hv]
        rcases Int.lt_trichotomy ka kb with g | g | g <;> rcases Int.lt_trichotomy ka 0 with g2 | g2 | g2 <;> rcases Int.lt_trichotomy kb 0 with g3 | g3 | g3 <;>
        first
          | (exfalso; omega)
          | ((first | rw [Int.compare_eq_lt.2 g] at hab | rw [Int.compare_eq_eq.2 g] at hab | rw [Int.compare_eq_gt.2 g] at hab)
             (first | rw [Int.compare_eq_lt.2 g2] at hza | rw [Int.compare_eq_eq.2 g2] at hza | rw [Int.compare_eq_gt.2 g2] at hza)
             (first | rw [Int.compare_eq_lt.2 g3] at hzb | rw [Int.compare_eq_eq.2 g3] at hzb | rw [Int.compare_eq_gt.2 g3] at hzb)
             (have hvv : v = true ↔ ka < kb := by rw [← hv]; simp)
             (rcases Bool.eq_false_or_eq_true v with hq | hq <;> first
               | (exfalso; rw [hq] at hvv; simp at hvv; omega)
               | (subst hq
                  clear g g2 g3 hz hv hvv
                  go_enter Try.func19, Try.ntmps19
                  go_wp2_with (
                    (first
                      | (go_at_call 20; (first | (with_reducible refine (hna _).mono ?_) | (with_reducible refine (hnb _).mono ?_)); rintro e w1 ⟨rfl, rfl⟩)
                      | (go_at_call 28; (first | (with_reducible refine (hba _).mono ?_; rintro e w2 ⟨rfl, hb2⟩) | (with_reducible refine (hbb _).mono ?_; rintro e w3 ⟨rfl, hb3⟩))))
                    )
                  go_ret
                  exact ⟨rfl, hbe⟩)))
theorem rodsame_k (a b : Nat) (w : World) : Calls Try.prog 12 #[.float .f64 a, .float .f64 b] w fun e w' => e = .returned (.bool (decide (placeV a = placeV b))) ∧ Below w.heap.size w w' := by
  have h1 := fun W => rodless_k a b W
  have h2 := fun W => rodless_k b a W
  have hbels : ∀ w2 w3, Below w.heap.size w w2 → Below w2.heap.size w2 w3 → Below w.heap.size w w3 := fun w2 w3 h2 h3 => h2.trans (h3.mono h2.size)
  have he : decide (placeV a = placeV b) = (!decide (placeV a < placeV b) && !decide (placeV b < placeV a)) := by
    rw [Bool.eq_iff_iff]; simp; omega
  generalize decide (placeV a = placeV b) = d at *
  generalize decide (placeV a < placeV b) = d1 at *
  generalize decide (placeV b < placeV a) = d2 at *
  subst he
  cases d1 <;> cases d2 <;>
  (go_enter Try.func12, Try.ntmps12
   go_wp2_with (go_at_call 19; (first | (with_reducible refine (h1 _).mono ?_; rintro e w2 ⟨rfl, hb2⟩) | (with_reducible refine (h2 _).mono ?_; rintro e w3 ⟨rfl, hb3⟩)))
   go_ret
   exact ⟨rfl, hbels _ _ hb2 hb3⟩)
end Go.Proofs.Ytoneofdihknnoab
