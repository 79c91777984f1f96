/- Messages left out: a link stays such as may be. -/
import Derived.Test.YtiloammjejggjaaLinkTick
set_option linter.unusedSimpArgs false
set_option linter.unusedVariables false
namespace Go.Proofs.Ytiloammjejggjaa
open Go.RowKit

theorem wtsOk_iff {most last : Int} {ws : List Wt} : wtsOk most last ws = true ↔ (∀ x ∈ ws, last < x.t ∧ wtOk most (x.t - 1) x = true) ∧ ws.Pairwise fun x y => x.t < y.t := by
  induction ws generalizing last with
  | nil => simp [wtsOk]
  | cons x xs ih =>
    simp only [wtsOk, Bool.and_eq_true, ih, List.pairwise_cons, List.mem_cons, forall_eq_or_imp]
    constructor
    · rintro ⟨h1, h2, h3⟩
      obtain ⟨a1, a2, a3⟩ := wtOk_iff.1 h1
      refine ⟨⟨⟨a2, wtOk_iff.2 ⟨a1, by omega, a3⟩⟩, fun y hy => ⟨by have := (h2 y hy).1; omega, (h2 y hy).2⟩⟩, fun y hy => (h2 y hy).1, h3⟩
    · rintro ⟨⟨⟨h1, h2⟩, h3⟩, h4, h5⟩
      obtain ⟨a1, _, a3⟩ := wtOk_iff.1 h2
      exact ⟨wtOk_iff.2 ⟨a1, h1, a3⟩, fun y hy => ⟨h4 y hy, (h3 y hy).2⟩, h5⟩
theorem mayL_sub {l : Lk} (h : mayL l = true) {ws : List Wt} (hs : ws.Sublist l.waits) : mayL ⟨l.period, l.most, l.quiet, l.heard, ws⟩ = true := by
  simp only [mayL, Bool.and_eq_true] at h ⊢
  obtain ⟨h1, h2⟩ := h
  obtain ⟨a1, a2, a3, a4, a5, a6, a7, a8⟩ := headOk_iff.1 h1
  obtain ⟨b1, b2⟩ := wtsOk_iff.1 h2
  have hl := hs.length_le
  exact ⟨headOk_iff.2 ⟨a1, a2, a3, a4, a5, a6, a7, by show ws.length ≤ 8; omega⟩, wtsOk_iff.2 ⟨fun x hx => b1 x (hs.subset hx), b2.sublist hs⟩⟩
theorem delW_sub (ws : List Wt) (t : Int) : (delW ws t).Sublist ws := by
  unfold delW
  rw [← List.eraseIdx_eq_take_drop_succ]
  exact List.eraseIdx_sublist ws _
theorem findB_mem {ws : List Wt} {x : Wt} (h : x ∈ ws) : findB ws x.t = true := by
  unfold findB
  exact List.any_eq_true.2 ⟨x, h, by simp⟩
/-- What stands at a time is found, and left out. -/
theorem del_at {ws : List Wt} (hs : ws.Pairwise fun x y => x.t < y.t) {k : Nat} {x : Wt} (hk : ws[k]? = some x) : findI ws x.t = k ∧ (delW ws x.t).length + 1 = ws.length ∧ ∀ y ∈ delW ws x.t, y.t ≠ x.t := by
  have hlt := (List.getElem?_eq_some_iff.1 hk).1
  have hi : findI ws x.t = k := findI_of (by omega) (fun j y hj hy => sorted_at hs hj hy hk) (fun j y hj hy => by
    rcases Nat.eq_or_lt_of_le hj with rfl | hj
    · rw [hk] at hy; injection hy with hy; subst hy; omega
    · have := sorted_at hs hj hk hy; omega)
  refine ⟨hi, ?_, ?_⟩
  · unfold delW
    rw [hi, List.length_append, List.length_take, List.length_drop]
    omega
  · intro y hy
    unfold delW at hy
    rw [hi] at hy
    rcases List.mem_append.1 hy with h | h
    · obtain ⟨j, hj⟩ := List.getElem?_of_mem h
      rw [List.getElem?_take] at hj
      split at hj
      · rename_i hjk
        have := sorted_at hs hjk hj hk
        omega
      · cases hj
    · obtain ⟨j, hj⟩ := List.getElem?_of_mem h
      rw [List.getElem?_drop] at hj
      have := sorted_at hs (show k < k + 1 + j by omega) hk hj
      omega
theorem tickO_len (l : Lk) (t : Int) : (tickO l t).length ≤ l.waits.length ∧ (tickB l t = true → tickO l t = []) := by
  unfold tickO tickB
  by_cases h : heardE l t = 0
  · rw [if_pos h, if_pos h]
    cases lostL l t with
    | true => simp
    | false => exact ⟨againW_len _ _, fun h => by cases h⟩
  · rw [if_neg h, if_neg h]
    simp
end Go.Proofs.Ytiloammjejggjaa
