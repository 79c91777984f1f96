/- Texts in one: StopsPlain. -/
import Derived.Test.YtpjdcpicfkdioaaGreatDoorK26
import Derived.Test.YtpjdcpicfkdioaaGreatDoorK07
set_option linter.unusedSimpArgs false
set_option linter.unusedVariables false
/- Plain: what the statement OnboardStops asks, case by case. -/
namespace Go.Proofs.YtpjdcpicfkdioaaGreatDoor
open Go.RowKit Go.Shelf

theorem joinT_length : ∀ (l out : List Sp), (joinT out l).length ≤ out.length + l.length
  | [], out => by rw [joinT.eq_def]; simp
  | s :: l, [] => by
    rw [joinT]
    have := joinT_length l [s]
    simp only [List.length_cons, List.length_nil] at this ⊢
    omega
  | s :: l, o :: out => by
    rw [joinT]
    split
    · have := joinT_length l (⟨o.edge, o.lo, max o.hi s.hi⟩ :: out)
      simp only [List.length_cons] at this ⊢
      omega
    · have := joinT_length l (s :: o :: out)
      simp only [List.length_cons] at this ⊢
      omega
theorem normT_length (l : List Sp) : (normT l).length ≤ l.length := by
  unfold normT
  rw [List.length_reverse]
  have h1 := joinT_length ((l.filter someT).foldr putSp []) []
  have h2 := (foldSp_perm (l.filter someT)).length_eq
  have h3 := List.length_filter_le someT l
  simp only [List.length_nil] at h1
  omega
theorem pieces_length (t : Tp) (fr to_ : Int) : ∀ (l : List St) (a : Int), (piecesT t fr to_ l a).length = l.length
  | [], a => rfl
  | s :: l, a => by
    rw [piecesT, List.length_cons, List.length_cons, pieces_length t fr to_ l]
theorem auth_length {t : Tp} {x : Tr} {now : Int} (hp : x.ma.path.length ≤ 100) : (authX t x now).length ≤ 100 := by
  unfold authX
  split
  · simp
  · split
    · simp
    · split
      · simp
      · unfold extentT
        split
        · simp
        · split
          · simp
          · unfold spanT
            split
            · refine Nat.le_trans (normT_length _) ?_
              rw [pieces_length]
              exact hp
            · simp
theorem auth_none {t : Tp} {x : Tr} {now : Int} (h : frontX t x = none) : authX t x now = [] := by
  unfold authX
  rw [h]
theorem step_front {t : Tp} {x : Tr} {n now : Int} (h : frontX t x = none) : stepE t x n now ≠ 0 := by
  unfold stepE movedE
  rw [h]
  simp only
  split <;> omega
/-- Emergency stops bind: nothing to go over, and it does not move. -/
theorem stops_bind {t : Tp} {x : Tr} {n now : Int} (h : x.stops ≠ []) : stepE t x n now ≠ 0 ∧ authX t x now = [] := by
  cases hf : frontX t x with
  | none => exact ⟨step_front hf, auth_none hf⟩
  | some a =>
    constructor
    · unfold stepE movedE
      rw [hf]
      simp only [if_pos h]
      split <;> omega
    · unfold authX
      rw [hf]
      simp only [if_pos (Or.inl h)]
theorem stops_held {t : Tp} {x : Tr} {n now : Int} (h : x.held = false) : stepE t x n now ≠ 0 ∧ authX t x now = [] := by
  have hf : frontX t x = none := by
    unfold frontX
    rw [if_neg (by rw [h]; simp)]
  exact ⟨step_front hf, auth_none hf⟩
theorem wrap64_in {n : Int} (h1 : -9223372036854775808 ≤ n) (h2 : n ≤ 9223372036854775807) : wrap64 n = n := by
  unfold wrap64
  omega
theorem stops_beyond {t : Tp} {x : Tr} {n now : Int} (h : reachP x.ma.sects (wrap64 (now - x.at_)) 0 = 0) : stepE t x n now ≠ 0 ∧ authX t x now = [] := by
  cases hf : frontX t x with
  | none => exact ⟨step_front hf, auth_none hf⟩
  | some a =>
    obtain ⟨n0, may1, held1, mayp1⟩ := front_nonneg hf
    obtain ⟨_, _, _, _, _, _, _, _, _, _, _, q0, q1⟩ := (mayX_iff t x).1 may1
    cases hc : clockP now with
    | false =>
      constructor
      · unfold stepE
        rw [if_pos (.inr hc)]
        omega
      · unfold authX
        rw [hf]
        simp only
        rw [if_pos (.inr hc)]
    | true =>
      have hcl := hc
      unfold clockP at hcl
      simp only [Bool.and_eq_true, decide_eq_true_eq] at hcl
      rw [wrap64_in (by omega) (by omega)] at h
      constructor
      · intro h0
        unfold stepE at h0
        rw [if_neg (by rw [may1, hc]; simp)] at h0
        have := stops_law hc h0
        omega
      · unfold authX
        rw [hf]
        simp only
        split
        · rfl
        · rw [if_pos (by omega)]
theorem stops_moves {t : Tp} {x : Tr} {n now : Int} (h : stepE t x n now = 0) : 1 ≤ n ∧ 0 < (authX t x now).length ∧ n ≤ totalT (authX t x now) := by
  unfold stepE at h
  split at h
  · omega
  · rename_i hn
    have hc : clockP now = true := by
      cases hq : clockP now with
      | true => rfl
      | false => exact absurd (.inr hq) hn
    obtain ⟨h1, _, _, _, h2, h3⟩ := stops_law hc h
    exact ⟨h1, List.length_pos_iff.2 h2, h3⟩
end Go.Proofs.YtpjdcpicfkdioaaGreatDoor
