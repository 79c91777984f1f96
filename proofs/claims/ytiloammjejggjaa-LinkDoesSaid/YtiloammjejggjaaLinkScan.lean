/- Plain: leaving out and putting in by going along, as the document does. -/
import Derived.Test.YtiloammjejggjaaLinkOps
set_option linter.unusedSimpArgs false
set_option linter.unusedVariables false
namespace Go.Proofs.Ytiloammjejggjaa
open Go.RowKit

theorem findI_cons_lt {x : Wt} {xs : List Wt} {t : Int} (h : x.t < t) : findI (x :: xs) t = findI xs t + 1 := by
  unfold findI
  rw [List.takeWhile_cons_of_pos (by simpa using h)]
  rfl
theorem findI_cons_ge {x : Wt} {xs : List Wt} {t : Int} (h : ¬ x.t < t) : findI (x :: xs) t = 0 := by
  unfold findI
  rw [List.takeWhile_cons_of_neg (by simpa using h)]
  rfl
theorem findI_le (ws : List Wt) (t : Int) : findI ws t ≤ ws.length := by
  induction ws with
  | nil => simp [findI]
  | cons x xs ih =>
    by_cases h : x.t < t
    · rw [findI_cons_lt h, List.length_cons]; omega
    · rw [findI_cons_ge h]; omega
/-- What is left when all of one time are passed over. -/
theorem filter_delW {t : Int} : ∀ {ws : List Wt}, ws.Pairwise (fun x y => x.t < y.t) → findB ws t = true → ws.filter (fun x => decide (x.t ≠ t)) = delW ws t
  | [], _, hb => by cases hb
  | x :: xs, hs, hb => by
    obtain ⟨h1, h2⟩ := List.pairwise_cons.1 hs
    by_cases hx : x.t = t
    · have e : findI (x :: xs) t = 0 := findI_cons_ge (by omega)
      unfold delW
      rw [e, List.filter_cons_of_neg (by simpa using hx)]
      simp only [List.take_zero, List.nil_append, Nat.zero_add, List.drop_succ_cons, List.drop_zero]
      exact List.filter_eq_self.2 fun y hy => by have := h1 y hy; simp; omega
    · have hb' : findB xs t = true := by
        unfold findB at hb ⊢
        rw [List.any_cons, decide_eq_false hx, Bool.false_or] at hb
        exact hb
      obtain ⟨y, hy, hyt⟩ := List.any_eq_true.1 hb'
      have hlt : x.t < t := by have := h1 y hy; simp at hyt; omega
      have ih := filter_delW h2 hb'
      unfold delW at ih ⊢
      rw [findI_cons_lt hlt, List.filter_cons_of_pos (by simpa using hx), ih]
      rfl
/-- Ahead of its place stand the earlier ones, behind it the later. -/
theorem find_side {t : Int} : ∀ {ws : List Wt}, ws.Pairwise (fun x y => x.t < y.t) → findB ws t = false → ∀ {k : Nat} {x : Wt}, ws[k]? = some x → (k < findI ws t → x.t < t) ∧ (findI ws t ≤ k → t < x.t)
  | [], _, _, k, x, hk => by simp at hk
  | y :: ys, hs, hb, k, x, hk => by
    obtain ⟨h1, h2⟩ := List.pairwise_cons.1 hs
    unfold findB at hb
    rw [List.any_cons, Bool.or_eq_false_iff] at hb
    have hy : y.t ≠ t := by simpa using hb.1
    by_cases h : y.t < t
    · rw [findI_cons_lt h]
      cases k with
      | zero => simp at hk; subst hk; exact ⟨fun _ => h, fun h' => by omega⟩
      | succ k =>
        rw [List.getElem?_cons_succ] at hk
        have := find_side h2 hb.2 hk
        exact ⟨fun h' => this.1 (by omega), fun h' => this.2 (by omega)⟩
    · rw [findI_cons_ge h]
      refine ⟨fun h' => absurd h' (Nat.not_lt_zero _), fun _ => ?_⟩
      cases k with
      | zero => simp at hk; subst hk; omega
      | succ k =>
        rw [List.getElem?_cons_succ] at hk
        have := h1 x (List.mem_of_getElem? hk)
        omega
/-- So far went the document: the first k, with the new one among them if its place was passed. -/
def scanW (ws : List Wt) (i : Nat) (x : Wt) (k : Nat) : List Wt := if i < k then ws.take i ++ x :: (ws.take k).drop i else ws.take k
theorem scanW_zero (ws : List Wt) (i : Nat) (x : Wt) : scanW ws i x 0 = [] := by simp [scanW]
theorem scanW_before {ws : List Wt} {i k : Nat} {x y : Wt} (hk : ws[k]? = some y) (h : k < i) : scanW ws i x (k + 1) = scanW ws i x k ++ [y] := by
  obtain ⟨hl, rfl⟩ := List.getElem?_eq_some_iff.1 hk
  unfold scanW
  rw [if_neg (by omega), if_neg (by omega), List.take_succ_eq_append_getElem hl]
theorem scanW_at {ws : List Wt} {i : Nat} {x y : Wt} (hk : ws[i]? = some y) : scanW ws i x (i + 1) = (scanW ws i x i ++ [x]) ++ [y] := by
  obtain ⟨hl, rfl⟩ := List.getElem?_eq_some_iff.1 hk
  unfold scanW
  rw [if_pos (by omega), if_neg (by omega), List.take_succ_eq_append_getElem hl, List.drop_append_of_le_length (by rw [List.length_take]; omega), List.drop_eq_nil_of_le (by rw [List.length_take]; omega)]
  simp
theorem scanW_behind {ws : List Wt} {i k : Nat} {x y : Wt} (hk : ws[k]? = some y) (h : i < k) : scanW ws i x (k + 1) = scanW ws i x k ++ [y] := by
  obtain ⟨hl, rfl⟩ := List.getElem?_eq_some_iff.1 hk
  unfold scanW
  rw [if_pos (by omega), if_pos h, List.take_succ_eq_append_getElem hl, List.drop_append_of_le_length (by rw [List.length_take]; omega)]
  simp
theorem scanW_end {ws : List Wt} {i : Nat} {x : Wt} (hi : i ≤ ws.length) : (if i < ws.length then scanW ws i x ws.length else scanW ws i x ws.length ++ [x]) = ws.take i ++ x :: ws.drop i := by
  unfold scanW
  by_cases h : i < ws.length
  · rw [if_pos h, if_pos h, List.take_length]
  · have : i = ws.length := by omega
    subst this
    rw [if_neg h, if_neg h, List.drop_length, List.take_length]
end Go.Proofs.Ytiloammjejggjaa
