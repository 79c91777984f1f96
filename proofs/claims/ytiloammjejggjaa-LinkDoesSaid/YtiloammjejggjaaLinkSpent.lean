/- Is one of the messages spent? slices.ContainsFunc with Tick's own closure. -/
import Derived.Test.YtiloammjejggjaaLinkActs
set_option linter.unusedSimpArgs false
set_option linter.unusedVariables false
namespace Go.Proofs.Ytiloammjejggjaa
open Go.RowKit

def spentP (now most : Int) (x : Wt) : Bool := decide (x.due ≤ now) && decide (x.tries = most)
def idxI (ws : List Wt) (p : Wt → Bool) : Int := if ws.any p then ((ws.findIdx p : Nat) : Int) else -1
theorem ret_i64 {a b : Int} (h : a = b) : Ending.returned (.int .i64 a) = .returned (.int .i64 b) := by rw [h]
theorem lkspent_k (x : Wt) (v : Value) (now : Int) (p m q h : Int) (u : Value) (bn bl : Nat) (w : World) (hn : Blk w bn 3 #[.int .i64 now]) (hl : Blk w bl 25 #[.int .i64 p, .int .i64 m, .int .i64 q, .int .i64 h, u]) :
    Calls Try.prog 30 #[.agg #[.int .i64 x.t, .int .i64 x.due, .int .i64 x.tries, v], .pointer (some ⟨bn, 0, none⟩), .pointer (some ⟨bl, 0, none⟩)] w fun e w' => e = .returned (.bool (spentP now m x)) ∧ Below w.heap.size w w' := by
  unfold spentP
  have hcn := hn.cell
  have hcl := hl.cell
  have h1 := hn.lt
  have h2 := hl.lt
  by_cases hd : x.due ≤ now
  · have hd' : decide (x.due ≤ now) = true := by simpa using hd
    rw [hd']
    go_enter Try.func30, Try.ntmps30
    go_wp2_with fail
    go_ret
    exact ⟨ret_bool (by simp [Bool.beq_eq_decide_eq, BEq.beq]), (Below.refl _ _).alloc (Nat.le_refl _) _⟩
  · have hd' : decide (x.due ≤ now) = false := by simpa using hd
    rw [hd']
    go_enter Try.func30, Try.ntmps30
    go_wp2_with fail
    go_ret
    exact ⟨rfl, (Below.refl _ _).alloc (Nat.le_refl _) _⟩
set_option maxHeartbeats 4000000 in
theorem windex_k (ws : List Wt) (A : Option Addr) (n c : Nat) (xs : List (Wt × Value)) (p : Wt → Bool) (cs : Array Value) (w : World) (hx : xs.map (·.1) = ws) (hn : ws.length = n) (hW : WaitsAt w A xs) (hlen : n ≤ 8)
    (hp : ∀ W, Below w.heap.size w W → ∀ (x : Wt) (v : Value), Calls Try.prog 30 (#[.agg #[.int .i64 x.t, .int .i64 x.due, .int .i64 x.tries, v]] ++ cs) W fun e w' => e = .returned (.bool (p x)) ∧ Below W.heap.size W w') :
    Calls Try.prog 41 #[.slice A n c, .func (.func 30) #[] cs] w fun e w' => e = .returned (.int .i64 (idxI ws p)) ∧ Below w.heap.size w w' := by
  have HN := Lib.hid hn
  have HX := Lib.hid hx
  clear hn hx
  go_enter Try.func41, Try.ntmps41
  go_wp2_with fail
  go_loopw [8] (fun a wr => ∃ k : Nat, k ≤ n ∧ a = .int .i64 k ∧ (∀ j x, j < k → ws[j]? = some x → p x = false) ∧ Below w.heap.size w wr) (fun a _ => n - (intOf a).toNat)
  case atStart => exact ⟨0, Nat.zero_le _, rfl, fun j x h => absurd h (by omega), Below.refl _ _⟩
  case round =>
    obtain ⟨k, hk, rfl, hl, hb⟩ := hrel
    have HL := Lib.hid hl
    clear hl
    by_cases hlt : k < n
    · obtain ⟨x, Ab, cb, b, off, hwk, hxk, rfl, hbl, hc0, hc1, hc2, hc3, hB⟩ := (hW.below hb).get (k := k) HX.out (by have h1 := HN.out; omega)
      have hpx := fun W hW => hp W hW x (.slice Ab x.body.length cb)
      have HW := Lib.hid hwk
      clear hwk hxk
      cases hq : p x with
      | true =>
        rw [hq] at hpx
        have HQ := Lib.hid hq
        clear hq
        go_wp2_with (go_at_call 30; (with_reducible refine (hpx _ hb).mono ?_); rintro e w1 ⟨rfl, hb1⟩)
        go_ret
        have hany : ws.any p = true := List.any_eq_true.2 ⟨x, List.mem_of_getElem? HW.out, HQ.out⟩
        refine ⟨ret_i64 ?_, below_then hb hb1⟩
        unfold idxI
        rw [hany]
        have : ws.findIdx p = k := by
          obtain ⟨hk', rfl⟩ := List.getElem?_eq_some_iff.1 HW.out
          exact (List.findIdx_eq hk').2 ⟨HQ.out, fun j hj => by simpa using HL.out j _ hj (List.getElem?_eq_getElem (by omega))⟩
        rw [this]
        rfl
      | false =>
        rw [hq] at hpx
        have HQ := Lib.hid hq
        clear hq
        go_wp2_with (go_at_call 30; (with_reducible refine (hpx _ hb).mono ?_); rintro e w1 ⟨rfl, hb1⟩)
        go_roundw
        case rel => exact ⟨k + 1, by omega, by go_num, fun j y hj hy => by
            rcases Nat.eq_or_lt_of_le (show j ≤ k by omega) with rfl | h
            · rw [HW.out] at hy; injection hy with hy; subst hy; exact HQ.out
            · exact HL.out j y h hy, below_then hb hb1⟩
        case measure => simp [intOf]; omega
    · obtain rfl : k = n := by omega
      go_wp2_with fail
      go_ret
      have hany : ws.any p = false := by
        rw [List.any_eq_false]
        intro x hx
        obtain ⟨j, hj⟩ := List.getElem?_of_mem hx
        have h1 := (List.getElem?_eq_some_iff.1 hj).1
        have h2 := HN.out
        rw [HL.out j x (by omega) hj]
        simp
      exact ⟨ret_i64 (by unfold idxI; rw [hany]; rfl), hb⟩
theorem wcontains_k (ws : List Wt) (A : Option Addr) (n c : Nat) (xs : List (Wt × Value)) (p : Wt → Bool) (cs : Array Value) (w : World) (hx : xs.map (·.1) = ws) (hn : ws.length = n) (hW : WaitsAt w A xs) (hlen : n ≤ 8)
    (hp : ∀ W, Below w.heap.size w W → ∀ (x : Wt) (v : Value), Calls Try.prog 30 (#[.agg #[.int .i64 x.t, .int .i64 x.due, .int .i64 x.tries, v]] ++ cs) W fun e w' => e = .returned (.bool (p x)) ∧ Below W.heap.size W w') :
    Calls Try.prog 31 #[.slice A n c, .func (.func 30) #[] cs] w fun e w' => e = .returned (.bool (ws.any p)) ∧ Below w.heap.size w w' := by
  have hI := windex_k ws A n c xs p cs w hx hn hW hlen hp
  clear hp hx hW
  unfold idxI at hI
  cases ha : ws.any p with
  | true =>
    rw [ha] at hI
    simp only [if_true] at hI
    clear ha
    generalize ws.findIdx p = i at hI
    go_enter Try.func31, Try.ntmps31
    go_wp2_with (go_at_call 41; (with_reducible refine (hI).mono ?_); rintro e w1 ⟨rfl, hb1⟩)
    go_ret
    exact ⟨ret_bool (by simp), hb1⟩
  | false =>
    rw [ha] at hI
    simp only [Bool.false_eq_true, if_false] at hI
    clear ha
    go_enter Try.func31, Try.ntmps31
    go_wp2_with (go_at_call 41; (with_reducible refine (hI).mono ?_); rintro e w1 ⟨rfl, hb1⟩)
    go_ret
    exact ⟨rfl, hb1⟩
end Go.Proofs.Ytiloammjejggjaa
