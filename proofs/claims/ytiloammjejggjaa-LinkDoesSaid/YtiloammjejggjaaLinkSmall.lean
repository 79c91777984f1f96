/- Small functions of chapter 12: is a number a time, has a body a size; both sides. -/
import Derived.Test.YtiloammjejggjaaLinkDefs
set_option linter.unusedSimpArgs false
set_option linter.unusedVariables false
namespace Go.Proofs.Ytiloammjejggjaa
open Go.RowKit

theorem lksized_k (A : Option Addr) (n c : Nat) (w : World) (hn : n ≤ 9223372036854775807) : Calls Try.prog 26 #[.slice A n c] w fun e w' => e = .returned (.bool (decide (1 ≤ n) && decide (n ≤ 1023))) ∧ Below w.heap.size w w' := by
  by_cases h1 : 1 ≤ n
  · rw [decide_eq_true h1]
    go_enter Try.func26, Try.ntmps26
    go_wp2_with fail
    go_ret
    refine ⟨?_, Below.refl _ _⟩
    show Ending.returned (.bool (decide ((n : Int) ≤ 1023))) = _
    rw [show decide ((n : Int) ≤ 1023) = decide (n ≤ 1023) from decide_eq_decide.2 (by omega)]
    rfl
  · rw [decide_eq_false h1]
    go_enter Try.func26, Try.ntmps26
    go_wp2_with fail
    go_ret
    exact ⟨rfl, Below.refl _ _⟩
theorem sttime_k (n : Int) (w : World) : Calls Try.prog 44 #[.int .i64 n] w fun e w' => e = .returned (.bool (isTime n)) ∧ Below w.heap.size w w' := by
  unfold isTime
  by_cases h1 : 0 ≤ n
  · rw [decide_eq_true h1]
    go_enter Try.func44, Try.ntmps44
    go_wp2_with fail
    go_ret
    exact ⟨rfl, Below.refl _ _⟩
  · rw [decide_eq_false h1]
    go_enter Try.func44, Try.ntmps44
    go_wp2_with fail
    go_ret
    exact ⟨rfl, Below.refl _ _⟩
theorem stlater_k (n : Int) (w : World) : Calls Try.prog 37 #[.int .i64 n, .int .i64 0] w fun e w' => e = .returned (.tuple #[.int .i64 (if isTime n then n else 0), .int .i64 (if isTime n then 0 else 7)]) ∧ Below w.heap.size w w' := by
  have h0 : isTime 0 = true := by decide
  cases hn : isTime n with
  | true =>
    have hb := isTime_iff.1 hn
    have hc : ∀ W, Calls Try.prog 44 #[.int .i64 n] W fun e w' => e = .returned (.bool true) ∧ Below W.heap.size W w' := fun W => by rw [← hn]; exact sttime_k n W
    have hc0 : ∀ W, Calls Try.prog 44 #[.int .i64 0] W fun e w' => e = .returned (.bool true) ∧ Below W.heap.size W w' := fun W => by rw [← h0]; exact sttime_k 0 W
    have hb1 := hb.1
    have hb2 := hb.2
    clear hn hb h0
    simp only [if_true]
    go_enter Try.func37, Try.ntmps37
    go_wp2_with (first
      | (go_at_call 44; (with_reducible refine (hc _).mono ?_); rintro e w1 ⟨rfl, hb1⟩)
      | (go_at_call 44; (with_reducible refine (hc0 _).mono ?_); rintro e w2 ⟨rfl, hb2⟩))
    go_ret2
    refine ⟨rfl, ?_⟩
    exact below_then (below_then ‹Below w.heap.size w _› ‹_›) ‹_›
  | false =>
    have hc : ∀ W, Calls Try.prog 44 #[.int .i64 n] W fun e w' => e = .returned (.bool false) ∧ Below W.heap.size W w' := fun W => by rw [← hn]; exact sttime_k n W
    clear hn h0
    simp only [Bool.false_eq_true, if_false]
    go_enter Try.func37, Try.ntmps37
    go_wp2_with (go_at_call 44; (with_reducible refine (hc _).mono ?_); rintro e w1 ⟨rfl, hb1⟩)
    go_ret2
    exact ⟨rfl, hb1⟩
theorem lktime_k (n : Int) (w : World) : Calls Try.prog 25 #[.int .i64 n] w fun e w' => e = .returned (.bool (isTime n)) ∧ Below w.heap.size w w' := by
  have hc := fun W => stlater_k n W
  cases hn : isTime n with
  | true =>
    rw [hn] at hc
    simp only [if_true] at hc
    clear hn
    go_enter Try.func25, Try.ntmps25
    go_wp2_with (go_at_call 37; (with_reducible refine (hc _).mono ?_); rintro e w1 ⟨rfl, hb1⟩)
    go_ret
    exact ⟨rfl, hb1⟩
  | false =>
    rw [hn] at hc
    simp only [Bool.false_eq_true, if_false] at hc
    clear hn
    go_enter Try.func25, Try.ntmps25
    go_wp2_with (go_at_call 37; (with_reducible refine (hc _).mono ?_); rintro e w1 ⟨rfl, hb1⟩)
    go_ret
    exact ⟨rfl, hb1⟩
theorem rtime11_k (n : Int) (w : World) : Calls Try.prog 34 #[.int .i64 n] w fun e w' => e = .returned (.bool (isTime n)) ∧ Below w.heap.size w w' := by
  unfold isTime
  by_cases h1 : 0 ≤ n
  · rw [decide_eq_true h1]
    go_enter Try.func34, Try.ntmps34
    go_wp2_with fail
    go_ret
    refine ⟨?_, Below.refl _ _⟩
    first | rfl | exact congrArg (fun b => Ending.returned (Value.bool b)) (decide_eq_decide.2 (by omega))
  · rw [decide_eq_false h1]
    go_enter Try.func34, Try.ntmps34
    go_wp2_with fail
    go_ret
    exact ⟨rfl, Below.refl _ _⟩
theorem rlsized_k (A : Option Addr) (n c : Nat) (w : World) (hn : n ≤ 9223372036854775807) : Calls Try.prog 35 #[.slice A n c] w fun e w' => e = .returned (.bool (decide (1 ≤ n) && decide (n ≤ 1023))) ∧ Below w.heap.size w w' := by
  by_cases h1 : 1 ≤ n
  · rw [decide_eq_true h1]
    have h1' : 0 < n := h1
    clear h1
    go_enter Try.func35, Try.ntmps35
    go_wp2_with fail
    go_ret
    refine ⟨?_, Below.refl _ _⟩
    exact congrArg (fun b => Ending.returned (Value.bool b)) (decide_eq_decide.2 (by omega))
  · rw [decide_eq_false h1]
    go_enter Try.func35, Try.ntmps35
    go_wp2_with fail
    go_ret
    exact ⟨rfl, Below.refl _ _⟩
end Go.Proofs.Ytiloammjejggjaa
