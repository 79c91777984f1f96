/- Where a time's message stands: the library's search by halves, with the comparison of the text. -/
import Derived.Test.YtiloammjejggjaaLinkSmall
import Derived.Test.YtiloammjejggjaaOwnLaw
set_option linter.unusedSimpArgs false
set_option linter.unusedVariables false
namespace Go.Proofs.Ytiloammjejggjaa
open Go.RowKit

/-- How many lie ahead of a time; does one stand at it? -/
def findI (ws : List Wt) (t : Int) : Nat := (ws.takeWhile fun x => decide (x.t < t)).length
def findB (ws : List Wt) (t : Int) : Bool := ws.any fun x => decide (x.t = t)
theorem findI_of {ws : List Wt} {t : Int} {i : Nat} (hi : i ≤ ws.length) (h1 : ∀ k x, k < i → ws[k]? = some x → x.t < t) (h2 : ∀ k x, i ≤ k → ws[k]? = some x → t ≤ x.t) : findI ws t = i := by
  unfold findI
  induction ws generalizing i with
  | nil => simp at hi; simp [hi]
  | cons y ys ih =>
    cases i with
    | zero =>
      have := h2 0 y (by omega) rfl
      have e : decide (y.t < t) = false := by simp; omega
      simp [List.takeWhile_cons, e]
    | succ i =>
      have := h1 0 y (by omega) rfl
      have e : decide (y.t < t) = true := by simpa using this
      rw [List.takeWhile_cons, if_pos e, List.length_cons, ih (i := i) (by simp at hi; omega) (fun k x hk hx => h1 (k + 1) x (by omega) (by simpa using hx)) (fun k x hk hx => h2 (k + 1) x (by omega) (by simpa using hx))]
theorem wtsOk_sorted {most last : Int} {ws : List Wt} (h : wtsOk most last ws = true) : (∀ x ∈ ws, last < x.t ∧ isTime x.t = true) ∧ ws.Pairwise fun x y => x.t < y.t := by
  induction ws generalizing last with
  | nil => simp
  | cons x xs ih =>
    simp only [wtsOk, Bool.and_eq_true] at h
    obtain ⟨ha, hb⟩ := ih h.2
    obtain ⟨q1, q2, _⟩ := wtOk_iff.1 h.1
    refine ⟨?_, List.pairwise_cons.2 ⟨fun y hy => (ha y hy).1, hb⟩⟩
    intro y hy
    rcases List.mem_cons.1 hy with rfl | hy
    · exact ⟨q2, q1⟩
    · have := ha y hy
      exact ⟨by omega, this.2⟩
theorem sorted_at {ws : List Wt} (h : ws.Pairwise fun x y => x.t < y.t) {i j : Nat} {x y : Wt} (hij : i < j) (hx : ws[i]? = some x) (hy : ws[j]? = some y) : x.t < y.t := by
  obtain ⟨hi, rfl⟩ := List.getElem?_eq_some_iff.1 hx
  obtain ⟨hj, rfl⟩ := List.getElem?_eq_some_iff.1 hy
  exact List.pairwise_iff_getElem.1 h i j hi hj hij
theorem findB_not {ws : List Wt} {t : Int} (h : ∀ x ∈ ws, isTime x.t = true) (ht : isTime t = false) : findB ws t = false := by
  unfold findB
  rw [List.any_eq_false]
  intro x hx
  have := h x hx
  simp
  rintro rfl
  rw [ht] at this
  cases this
theorem findB_of {ws : List Wt} {t : Int} (hs : ws.Pairwise fun x y => x.t < y.t) {i : Nat} (hi : findI ws t = i) {b : Bool} (hb : b = true ↔ ∃ x, ws[i]? = some x ∧ x.t = t) : findB ws t = b := by
  rw [Bool.eq_iff_iff, hb]
  unfold findB
  rw [List.any_eq_true]
  constructor
  · rintro ⟨x, hx, e⟩
    simp at e
    obtain ⟨k, hk⟩ := List.getElem?_of_mem hx
    have : findI ws t = k := findI_of (by have := (List.getElem?_eq_some_iff.1 hk).1; omega) (fun j y hj hy => by have := sorted_at hs hj hy hk; omega) (fun j y hj hy => by
      rcases Nat.eq_or_lt_of_le hj with rfl | hj
      · rw [hk] at hy; injection hy with hy; subst hy; omega
      · have := sorted_at hs hj hk hy; omega)
    exact ⟨x, by rw [← hi, this]; exact hk, e⟩
  · rintro ⟨x, hx, e⟩
    exact ⟨x, List.mem_of_getElem? hx, by simpa using e⟩

theorem lkcmp_k (x1 x2 x3 n : Int) (v : Value) (w : World) : Calls Try.prog 39 #[.agg #[.int .i64 x1, .int .i64 x2, .int .i64 x3, v], .int .i64 n] w fun e w' => e = .returned (.int .i64 (wrap64 (x1 - n))) ∧ Below w.heap.size w w' := by
  go_enter Try.func39, Try.ntmps39
  go_wp2_with fail
  go_ret
  exact ⟨rfl, (Below.refl _ _).alloc (Nat.le_refl _) _⟩
set_option maxHeartbeats 4000000 in
theorem search_time (ws : List Wt) (A : Option Addr) (n c : Nat) (xs : List (Wt × Value)) (t : Int) (w : World) (hx : xs.map (·.1) = ws) (hn : ws.length = n) (hW : WaitsAt w A xs) (hlen : n ≤ 8) (hT : ∀ x ∈ ws, isTime x.t = true) (hs : ws.Pairwise fun x y => x.t < y.t) (ht : isTime t = true) :
    Calls Try.prog 38 #[.slice A n c, .int .i64 t, .func (.func 39) #[] #[]] w fun e w' => e = .returned (.tuple #[.int .i64 (findI ws t), .bool (findB ws t)]) ∧ Below w.heap.size w w' := by
  obtain ⟨t0, t1⟩ := isTime_iff.1 ht
  have HN := Lib.hid hn
  have HX := Lib.hid hx
  clear hn hx ht
  go_enter Try.func38, Try.ntmps38
  go_wp2_with fail
  go_loopw [9, 10] (fun a b wr => ∃ i j : Nat, i ≤ j ∧ j ≤ n ∧ a = .int .i64 i ∧ b = .int .i64 j ∧ (∀ k x, k < i → ws[k]? = some x → x.t < t) ∧ (∀ k x, j ≤ k → ws[k]? = some x → t ≤ x.t) ∧ Below w.heap.size w wr) (fun a b _ => (intOf b).toNat - (intOf a).toNat)
  case atStart => exact ⟨0, n, Nat.zero_le _, Nat.le_refl _, rfl, rfl, fun k x h => absurd h (by omega), fun k x h hk => by
      have := (List.getElem?_eq_some_iff.1 hk).1
      have := HN.out
      omega, Below.refl _ _⟩
  case round =>
    obtain ⟨i, j, hij, hjn, rfl, rfl, hl, hr, hb⟩ := hrel
    have HL := Lib.hid hl
    have HR := Lib.hid hr
    clear hl hr
    by_cases hlt : i < j
    · have hk : (i + j) / 2 < n := by omega
      obtain ⟨x, Ab, cb, b, off, hwk, hxk, rfl, hbl, hc0, hc1, hc2, hc3, hB⟩ := (hW.below hb).get (k := (i + j) / 2) HX.out (by have h1 := HN.out; omega)
      obtain ⟨x0, x1⟩ := isTime_iff.1 (hT x (List.mem_of_getElem? hwk))
      have HK := Lib.hid hwk
      have hcmp : ∀ W, Calls Try.prog 39 #[.agg #[.int .i64 x.t, .int .i64 x.due, .int .i64 x.tries, .slice Ab x.body.length cb], .int .i64 t] W fun e w' => e = .returned (.int .i64 (x.t - t)) ∧ Below W.heap.size W w' := fun W => by
        have := lkcmp_k x.t x.due x.tries t (.slice Ab x.body.length cb) W
        rwa [show wrap64 (x.t - t) = x.t - t by unfold wrap64; omega] at this
      clear hwk hxk
      by_cases hxt : x.t < t
      · have hd : decide (x.t - t < 0) = true := by simp; omega
        go_wp2_with (go_at_call 39; (with_reducible refine (hcmp _).mono ?_); rintro e w1 ⟨rfl, hb1⟩)
        go_roundw
        case rel => exact ⟨(i + j) / 2 + 1, j, by omega, hjn, by go_num, rfl, fun k y hk1 hy => by
            rcases Nat.eq_or_lt_of_le (show k ≤ (i + j) / 2 by omega) with rfl | hk2
            · rw [HK.out] at hy; injection hy with hy; subst hy; exact hxt
            · have := sorted_at hs hk2 hy HK.out; omega, HR.out, below_then hb hb1⟩
        case measure => simp [intOf]; omega
      · have hd : decide (x.t - t < 0) = false := by simp; omega
        go_wp2_with (go_at_call 39; (with_reducible refine (hcmp _).mono ?_); rintro e w1 ⟨rfl, hb1⟩)
        go_roundw
        case rel => exact ⟨i, (i + j) / 2, by omega, by omega, rfl, by go_num, HL.out, fun k y hk1 hy => by
            rcases Nat.eq_or_lt_of_le hk1 with rfl | hk2
            · rw [HK.out] at hy; injection hy with hy; subst hy; omega
            · have := sorted_at hs hk2 HK.out hy; omega, below_then hb hb1⟩
        case measure => simp [intOf]; omega
    · obtain rfl : i = j := by omega
      have hI : findI ws t = i := findI_of (by have := HN.out; omega) HL.out HR.out
      have HI := Lib.hid hI
      clear hI
      by_cases hin : i < n
      · obtain ⟨x, Ab, cb, b, off, hwk, hxk, rfl, hbl, hc0, hc1, hc2, hc3, hB⟩ := (hW.below hb).get (k := i) HX.out (by have h1 := HN.out; omega)
        obtain ⟨x0, x1⟩ := isTime_iff.1 (hT x (List.mem_of_getElem? hwk))
        have hF : findB ws t = decide (x.t - t = 0) := findB_of hs HI.out (by
          rw [decide_eq_true_iff]
          constructor
          · intro h; exact ⟨x, hwk, by omega⟩
          · rintro ⟨y, hy, e⟩; rw [hwk] at hy; injection hy with hy; subst hy; omega)
        have HF := Lib.hid hF
        have hcmp : ∀ W, Calls Try.prog 39 #[.agg #[.int .i64 x.t, .int .i64 x.due, .int .i64 x.tries, .slice Ab x.body.length cb], .int .i64 t] W fun e w' => e = .returned (.int .i64 (x.t - t)) ∧ Below W.heap.size W w' := fun W => by
          have := lkcmp_k x.t x.due x.tries t (.slice Ab x.body.length cb) W
          rwa [show wrap64 (x.t - t) = x.t - t by unfold wrap64; omega] at this
        clear hF hwk hxk
        generalize x.t = xt at *
        go_wp2_with (go_at_call 39; (with_reducible refine (hcmp _).mono ?_); rintro e w1 ⟨rfl, hb1⟩)
        go_ret2
        refine ⟨?_, below_then hb hb1⟩
        rw [HI.out, HF.out]
        rfl
      · obtain rfl : i = n := by omega
        have hF : findB ws t = false := findB_of hs HI.out (by
          have h1 := HN.out
          simp [← h1])
        have HF := Lib.hid hF
        clear hF
        go_wp2_with fail
        go_ret2
        refine ⟨?_, hb⟩
        rw [HI.out, HF.out]
        rfl
set_option maxHeartbeats 4000000 in
theorem search_not (ws : List Wt) (A : Option Addr) (n c : Nat) (xs : List (Wt × Value)) (t : Int) (w : World) (hx : xs.map (·.1) = ws) (hn : ws.length = n) (hW : WaitsAt w A xs) (hlen : n ≤ 8) (hT : ∀ x ∈ ws, isTime x.t = true) (ht : isTime t = false) (hlo : -9223372036854775808 ≤ t) (hhi : t ≤ 9223372036854775807) :
    Calls Try.prog 38 #[.slice A n c, .int .i64 t, .func (.func 39) #[] #[]] w fun e w' => ∃ i : Nat, e = .returned (.tuple #[.int .i64 i, .bool false]) ∧ Below w.heap.size w w' := by
  have htn : ¬ (0 ≤ t ∧ t ≤ 4294967294) := by rw [← isTime_iff, ht]; simp
  have HN := Lib.hid hn
  have HX := Lib.hid hx
  clear hn hx ht
  have hcmp : ∀ (x : Wt) v, isTime x.t = true → ∃ z : Int, z ≠ 0 ∧ ∀ W, Calls Try.prog 39 #[.agg #[.int .i64 x.t, .int .i64 x.due, .int .i64 x.tries, v], .int .i64 t] W fun e w' => e = .returned (.int .i64 z) ∧ Below W.heap.size W w' := fun x v h => by
    obtain ⟨x0, x1⟩ := isTime_iff.1 h
    exact ⟨wrap64 (x.t - t), by unfold wrap64; omega, fun W => lkcmp_k x.t x.due x.tries t v W⟩
  replace htn := Lib.hid htn
  go_enter Try.func38, Try.ntmps38
  go_wp2_with fail
  go_loopw [9, 10] (fun a b wr => ∃ i j : Nat, i ≤ j ∧ j ≤ n ∧ a = .int .i64 i ∧ b = .int .i64 j ∧ Below w.heap.size w wr) (fun a b _ => (intOf b).toNat - (intOf a).toNat)
  case atStart => exact ⟨0, n, Nat.zero_le _, Nat.le_refl _, rfl, rfl, Below.refl _ _⟩
  case round =>
    obtain ⟨i, j, hij, hjn, rfl, rfl, hb⟩ := hrel
    by_cases hlt : i < j
    · have hk : (i + j) / 2 < n := by omega
      obtain ⟨x, Ab, cb, b, off, hwk, hxk, rfl, hbl, hc0, hc1, hc2, hc3, hB⟩ := (hW.below hb).get (k := (i + j) / 2) HX.out (by have h1 := HN.out; omega)
      obtain ⟨z, hz, hcx⟩ := hcmp x (.slice Ab x.body.length cb) (hT x (List.mem_of_getElem? hwk))
      clear hwk hxk hcmp
      by_cases hxt : z < 0
      · have hd : decide (z < 0) = true := by simpa using hxt
        go_wp2_with (go_at_call 39; (with_reducible refine (hcx _).mono ?_); rintro e w1 ⟨rfl, hb1⟩)
        go_roundw
        case rel => exact ⟨(i + j) / 2 + 1, j, by omega, hjn, by go_num, rfl, below_then hb hb1⟩
        case measure => simp [intOf]; omega
      · have hd : decide (z < 0) = false := by simpa using hxt
        go_wp2_with (go_at_call 39; (with_reducible refine (hcx _).mono ?_); rintro e w1 ⟨rfl, hb1⟩)
        go_roundw
        case rel => exact ⟨i, (i + j) / 2, by omega, by omega, rfl, by go_num, below_then hb hb1⟩
        case measure => simp [intOf]; omega
    · obtain rfl : i = j := by omega
      by_cases hin : i < n
      · obtain ⟨x, Ab, cb, b, off, hwk, hxk, rfl, hbl, hc0, hc1, hc2, hc3, hB⟩ := (hW.below hb).get (k := i) HX.out (by have h1 := HN.out; omega)
        obtain ⟨z, hz, hcx⟩ := hcmp x (.slice Ab x.body.length cb) (hT x (List.mem_of_getElem? hwk))
        clear hwk hxk hcmp
        have hd : (z == 0) = false := by simpa using hz
        go_wp2_with (go_at_call 39; (with_reducible refine (hcx _).mono ?_); rintro e w1 ⟨rfl, hb1⟩)
        go_ret2
        exact ⟨i, rfl, below_then hb hb1⟩
      · obtain rfl : i = n := by omega
        clear hcmp
        go_wp2_with fail
        go_ret2
        exact ⟨i, rfl, hb⟩
/-- What the search tells. -/
def Found (ws : List Wt) (t : Int) (w : World) (e : Ending) (w' : World) : Prop := ∃ i : Nat, e = .returned (.tuple #[.int .i64 i, .bool (findB ws t)]) ∧ (isTime t = true → i = findI ws t) ∧ Below w.heap.size w w'
theorem lkfind_k (l : Lk) (A : Option Addr) (n c : Nat) (xs : List (Wt × Value)) (t : Int) (w : World) (hx : xs.map (·.1) = l.waits) (hn : l.waits.length = n) (hW : WaitsAt w A xs) (hm : mayL l = true) (hlo : -9223372036854775808 ≤ t) (hhi : t ≤ 9223372036854775807) :
    Calls Try.prog 27 #[.agg #[.int .i64 l.period, .int .i64 l.most, .int .i64 l.quiet, .int .i64 l.heard, .slice A n c], .int .i64 t] w (Found l.waits t w) := by
  simp only [mayL, Bool.and_eq_true] at hm
  have h8 : n ≤ 8 := by have := (headOk_iff.1 hm.1).2.2.2.2.2.2.2; omega
  obtain ⟨hT0, hs⟩ := wtsOk_sorted hm.2
  have hT : ∀ x ∈ l.waits, isTime x.t = true := fun x h => (hT0 x h).2
  have hO : Own w _ [_] := (Own.nil w).new0 25 #[.int .i64 l.period, .int .i64 l.most, .int .i64 l.quiet, .int .i64 l.heard, .slice A n c]
  have hcon : ∀ W, Below w.heap.size w W → Calls Try.prog 38 #[.slice A n c, .int .i64 t, .func (.func 39) #[] #[]] W (Found l.waits t W) := fun W hb => by
    cases ht : isTime t with
    | true => exact (search_time l.waits A n c xs t W hx hn (hW.below hb) h8 hT hs ht).mono fun e w' ⟨he, hb⟩ => ⟨_, he, fun _ => rfl, hb⟩
    | false =>
      refine (search_not l.waits A n c xs t W hx hn (hW.below hb) h8 hT ht hlo hhi).mono ?_
      rintro e w' ⟨i, he, hb⟩
      exact ⟨i, by rw [findB_not hT ht]; exact he, by simp [ht], hb⟩
  clear hm hT hT0 hs hx hn h8
  generalize l.waits = ws at *
  have hcl := hO.b0.cell
  go_enter Try.func27, Try.ntmps27
  go_wp2_with (go_at_call 38; (with_reducible refine (hcon _ hO.below).mono ?_); rintro e w1 ⟨i, rfl, hi, hb1⟩)
  go_ret2
  exact ⟨i, rfl, hi, (hO.grow hb1).below⟩
end Go.Proofs.Ytiloammjejggjaa
