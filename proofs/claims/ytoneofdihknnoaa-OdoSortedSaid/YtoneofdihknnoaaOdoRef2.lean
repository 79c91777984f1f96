/- The document's Whole and Between. -/
import Derived.Test.YtoneofdihknnoaaOdoRef
set_option linter.unusedSimpArgs false
set_option linter.unusedVariables false
namespace Go.Proofs.Ytoneofdihknnoaa
open Go.RowKit Ieee

theorem rodwhole_k (x : Nat) (w : World) : Calls Try.prog 11 #[.float .f64 x] w fun e w' => e = .returned (.tuple #[.int .i64 (wholeV x).1, .int .i64 (wholeV x).2]) ∧ Below w.heap.size w w' := by
  obtain ⟨y, k, hm, hg⟩ := float_op (P := Try.prog) .mul (by simp) x TEN w
  unfold TEN at hm
  have hw := wholeOf_got hg
  have hno := fun W => rodnone_k x W
  obtain ⟨p, hp⟩ : ∃ p, wholeV x = p := ⟨_, rfl⟩
  rw [hp]
  unfold wholeV at hp
  rw [hw] at hp
  clear hg hw
  have hbel := below_drew w k
  cases hn : isNan x with
  | true =>
    rw [hn] at hno hp
    obtain rfl : (0, 40) = p := hp
    clear hn hbel
    go_enter Try.func11, Try.ntmps11
    go_wp2_with (go_at_call 22; (with_reducible refine (hno _).mono ?_); rintro e w1 ⟨rfl, rfl⟩)
    go_ret2
    exact ⟨rfl, Below.refl _ _⟩
  | false =>
    rw [hn] at hno hp
    rw [if_neg Bool.false_ne_true] at hp
    have hin := fun W => rodfar_k y W
    cases hwi : withinB y with
    | true =>
      rw [hwi, if_pos rfl] at hp
      rw [hwi] at hin
      subst hp
      have hfl := fun W => roddown_k y W hwi
      generalize floorK y = n at hfl ⊢
      clear hwi hn
      go_enter Try.func11, Try.ntmps11
      go_wp2_with (first
        | (go_at_call 22; (with_reducible refine (hno _).mono ?_); rintro e w1 ⟨rfl, rfl⟩)
        | (go_at_call 23; (with_reducible refine (hin _).mono ?_); rintro e w1 ⟨rfl, rfl⟩)
        | (go_at_call 24; (with_reducible refine (hfl _).mono ?_); rintro e w1 ⟨rfl, rfl⟩))
      go_ret2
      exact ⟨rfl, hbel⟩
    | false =>
      rw [hwi, if_neg Bool.false_ne_true] at hp
      rw [hwi] at hin
      subst hp
      clear hwi hn
      go_enter Try.func11, Try.ntmps11
      go_wp2_with (first
        | (go_at_call 22; (with_reducible refine (hno _).mono ?_); rintro e w1 ⟨rfl, rfl⟩)
        | (go_at_call 23; (with_reducible refine (hin _).mono ?_); rintro e w1 ⟨rfl, rfl⟩))
      go_ret2
      exact ⟨rfl, hbel⟩
theorem rodbetween_k (x off : Nat) (w : World) : Calls Try.prog 13 #[.float .f64 x, .float .f64 off] w fun e w' => e = .returned (.tuple #[.int .i64 (betweenV x off).1, .int .i64 (betweenV x off).2.1, .int .i64 (betweenV x off).2.2]) ∧ Below w.heap.size w w' := by
  have hnx := fun W => rodnone_k x W
  have hno := fun W => rodnone_k off W
  have hz : (FloatKind.f64.format.order off 0 == some .lt) = ltB off 0 := rfl
  obtain ⟨p, k1, hp, g1⟩ := float_op (P := Try.prog) .sub (by simp) x off w
  obtain ⟨q, k2, hq, g3⟩ := float_op (P := Try.prog) .add (by simp) x off (w.drewN k1)
  obtain ⟨y, k3, hy, g2⟩ := float_op (P := Try.prog) .mul (by simp) p TEN (w.drewN (k1 + k2))
  obtain ⟨z, k4, hzz, g4⟩ := float_op (P := Try.prog) .mul (by simp) q TEN (w.drewN (k1 + k2 + k3))
  unfold TEN at hy hzz
  simp only [World.drewN_drewN] at hy hq hzz
  have hw := betweenOf_got (bind_got g1 g2) (bind_got g3 g4)
  obtain ⟨v, hv⟩ : ∃ v, betweenV x off = v := ⟨_, rfl⟩
  rw [hv]
  unfold betweenV at hv
  rw [hw] at hv
  clear hw g1 g2 g3 g4
  have hbel := below_drew w (k1 + k2 + k3 + k4)
  generalize ltB off 0 = lt at *
  cases hn : isNan x with
  | true =>
    rw [hn] at hnx hv
    obtain rfl : (0, 0, 40) = v := by rw [← hv, if_pos (.inl rfl)]
    cases hm : isNan off <;> cases lt <;>
    (rw [hm] at hno
     clear hn hv hm
     go_enter Try.func13, Try.ntmps13
     go_wp2_with (
       (first
         | (go_at_call 22; go_loud (first | (with_reducible refine (hnx _).mono ?_) | (with_reducible refine (hno _).mono ?_)); rintro e w1 ⟨rfl, rfl⟩)
         | (go_at_call 23; (with_reducible refine (rodfar_k _ _).mono ?_); rintro e w1 ⟨rfl, rfl⟩)
         | (go_at_call 24; (with_reducible refine (hfl _).mono ?_); rintro e w1 ⟨rfl, rfl⟩)
         | (go_at_call 26; (with_reducible refine (hce _).mono ?_); rintro e w1 ⟨rfl, rfl⟩))
       )
     exact bodyPost_ret (v := .tuple #[.int .i64 0, .int .i64 0, .int .i64 40]) (by simp [results, Try.results13, go_sem]) rfl ⟨rfl, Below.refl _ _⟩)
  | false =>
    rw [hn] at hnx hv
    cases hm : isNan off with
    | true =>
      rw [hm] at hno hv
      obtain rfl : (0, 0, 40) = v := by rw [← hv, if_pos (.inr (.inl rfl))]
      cases lt <;>
      (clear hn hm hv
       go_enter Try.func13, Try.ntmps13
       go_wp2_with (
         (first
           | (go_at_call 22; go_loud (first | (with_reducible refine (hnx _).mono ?_) | (with_reducible refine (hno _).mono ?_)); rintro e w1 ⟨rfl, rfl⟩)
           | (go_at_call 23; (with_reducible refine (rodfar_k _ _).mono ?_); rintro e w1 ⟨rfl, rfl⟩)
           | (go_at_call 24; (with_reducible refine (hfl _).mono ?_); rintro e w1 ⟨rfl, rfl⟩)
           | (go_at_call 26; (with_reducible refine (hce _).mono ?_); rintro e w1 ⟨rfl, rfl⟩))
         )
       exact bodyPost_ret (v := .tuple #[.int .i64 0, .int .i64 0, .int .i64 40]) (by simp [results, Try.results13, go_sem]) rfl ⟨rfl, Below.refl _ _⟩)
    | false =>
      rw [hm] at hno hv
      cases lt with
      | true =>
        obtain rfl : (0, 0, 40) = v := by rw [← hv, if_pos (.inr (.inr rfl))]
        clear hn hm hv
        go_enter Try.func13, Try.ntmps13
        go_wp2_with (
          (first
            | (go_at_call 22; go_loud (first | (with_reducible refine (hnx _).mono ?_) | (with_reducible refine (hno _).mono ?_)); rintro e w1 ⟨rfl, rfl⟩)
            | (go_at_call 23; (with_reducible refine (rodfar_k _ _).mono ?_); rintro e w1 ⟨rfl, rfl⟩)
            | (go_at_call 24; (with_reducible refine (hfl _).mono ?_); rintro e w1 ⟨rfl, rfl⟩)
            | (go_at_call 26; (with_reducible refine (hce _).mono ?_); rintro e w1 ⟨rfl, rfl⟩))
          )
        all_goals exact bodyPost_ret (v := .tuple #[.int .i64 0, .int .i64 0, .int .i64 40]) (by simp [results, Try.results13, go_sem]) rfl ⟨rfl, Below.refl _ _⟩
      | false =>
        rw [if_neg (by simp)] at hv
        cases hwy : withinB y <;> cases hwz : withinB z
        iterate 3
          · rw [hwy, hwz, if_neg (by simp)] at hv
            subst hv
            have hay := fun W => rodfar_k y W
            clear hn hm
            go_enter Try.func13, Try.ntmps13
            go_wp2_with (
              (first
                | (go_at_call 22; go_loud (first | (with_reducible refine (hnx _).mono ?_) | (with_reducible refine (hno _).mono ?_)); rintro e w1 ⟨rfl, rfl⟩)
                | (go_at_call 23; (with_reducible refine (rodfar_k _ _).mono ?_); rintro e w1 ⟨rfl, rfl⟩)
                | (go_at_call 24; (with_reducible refine (hfl _).mono ?_); rintro e w1 ⟨rfl, rfl⟩)
                | (go_at_call 26; (with_reducible refine (hce _).mono ?_); rintro e w1 ⟨rfl, rfl⟩))
              )
            exact bodyPost_ret (v := .tuple #[.int .i64 0, .int .i64 0, .int .i64 7]) (by simp [results, Try.results13, go_sem]) rfl ⟨rfl, hbel⟩
        · rw [hwy, hwz, if_pos ⟨rfl, rfl⟩] at hv
          subst hv
          have hfl := fun W => roddown_k y W hwy
          have hce := fun W => rodup_k z W hwz
          generalize floorK y = n at hfl ⊢
          generalize ceilK z = n2 at hce ⊢
          clear hn hm
          go_enter Try.func13, Try.ntmps13
          go_wp2_with (
            (first
              | (go_at_call 22; go_loud (first | (with_reducible refine (hnx _).mono ?_) | (with_reducible refine (hno _).mono ?_)); rintro e w1 ⟨rfl, rfl⟩)
              | (go_at_call 23; (with_reducible refine (rodfar_k _ _).mono ?_); rintro e w1 ⟨rfl, rfl⟩)
              | (go_at_call 24; (with_reducible refine (hfl _).mono ?_); rintro e w1 ⟨rfl, rfl⟩)
              | (go_at_call 26; (with_reducible refine (hce _).mono ?_); rintro e w1 ⟨rfl, rfl⟩))
            )
          exact bodyPost_ret (v := .tuple #[.int .i64 n, .int .i64 n2, .int .i64 0]) (by simp [results, Try.results13, go_sem]) rfl ⟨rfl, hbel⟩
end Go.Proofs.Ytoneofdihknnoaa
