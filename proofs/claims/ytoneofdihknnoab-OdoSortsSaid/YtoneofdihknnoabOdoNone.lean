/- The package's Sort of no reading; readings that came in, opened. -/
import Derived.Test.YtoneofdihknnoabOdoStable
import Derived.Test.YtoneofdihknnoabOdoIn
import Derived.Deep.Slices
import Derived.Lib.SliceRun
set_option linter.unusedSimpArgs false
set_option linter.unusedVariables false
namespace Go.Proofs.Ytoneofdihknnoab
open Go.ChangeShapes Go.WideShapes Go.ChangeAt Go.RowKit Go.Shelf Go.Sort Ieee

theorem clone0_k (A : Option Addr) (c : Nat) (w : World) :
    Calls Try.prog 16 #[.slice A 0 c] w fun e w' => ∃ A' c', e = .returned (.slice A' 0 c') ∧ Below w.heap.size w w' := by
  have q27 : ∀ (W : World) (a : Option Addr) (n c n' c' : Nat), (binOp .eql 22 (.slice a n c) (.slice none n' c')).run Try.prog W = .ok (.bool a.isNone) W := fun W a n c n' c' => Lib.run_eql_slice_nil W _ _ a n c n' c' Try.underlying22
  cases A with
  | none =>
    go_enter Try.func16, Try.ntmps16
    go_wp2
    go_ret
    exact ⟨none, 0, rfl, Below.refl _ _⟩
  | some ad =>
    have hb0 : Below w.heap.size w (w.alloc (.cells #[] 26)) := (Below.refl _ _).alloc (Nat.le_refl _) _
    go_enter Try.func16, Try.ntmps16
    go_wp2
    go_ret
    exact ⟨_, _, rfl, hb0⟩
theorem ins0_k (A : Option Addr) (c : Nat) (w : World) :
    Calls Try.prog 34 #[.slice A 0 c, .int .i64 0, .int .i64 0, .func (.func 18) #[] #[]] w fun e w' => e = .returned (.tuple #[]) ∧ Below w.heap.size w w' := by
  go_enter Try.func34, Try.ntmps34
  go_wp2_with fail
  go_loopw [8] (fun i wr => i = .int .i64 1 ∧ wr = w) (fun _ _ => 0)
  case atStart => exact ⟨rfl, rfl⟩
  case round =>
    obtain ⟨rfl, rfl⟩ := hrel
    go_wp2_with fail
    go_end0
    exact ⟨rfl, Below.refl _ _⟩
theorem stable0_k (A : Option Addr) (c : Nat) (w : World) :
    Calls Try.prog 26 #[.slice A 0 c, .int .i64 0, .func (.func 18) #[] #[]] w fun e w' => e = .returned (.tuple #[]) ∧ Below w.heap.size w w' := by
  have hi := fun W => ins0_k A c W
  go_enter Try.func26, Try.ntmps26
  go_wp2_with fail
  go_loopw [7, 8] (fun a b wr => a = .int .i64 0 ∧ b = .int .i64 20 ∧ wr = w) (fun _ _ _ => 0)
  case atStart => exact ⟨rfl, rfl, rfl⟩
  case round =>
    obtain ⟨rfl, rfl, rfl⟩ := hrel
    go_wp2_with (go_at_call 34; (with_reducible refine (hi _).mono ?_); rintro e w1 ⟨rfl, hb1⟩)
    go_loopw [6] (fun b W => b = .int .i64 20 ∧ Below wr.heap.size wr W) (fun _ _ => 0)
    case atStart => exact ⟨rfl, hb1⟩
    case round =>
      obtain ⟨rfl, hb⟩ := hrel
      go_wp2_with fail
      go_end0
      exact ⟨rfl, hb⟩
theorem sortstable0_k (A : Option Addr) (c : Nat) (w : World) :
    Calls Try.prog 17 #[.slice A 0 c, .func (.func 18) #[] #[]] w fun e w' => e = .returned (.tuple #[]) ∧ Below w.heap.size w w' := by
  have hst := fun W => stable0_k A c W
  go_enter Try.func17, Try.ntmps17
  go_wp2_with (go_at_call 26; (with_reducible refine (hst _).mono ?_); rintro e w1 ⟨rfl, hb1⟩)
  go_end0
  exact ⟨rfl, hb1⟩
theorem odsort0_k (A : Option Addr) (c : Nat) (w : World) :
    Calls Try.prog 6 #[.slice A 0 c] w fun e w' => ∃ A' c', e = .returned (.slice A' 0 c') ∧ Below w.heap.size w w' := by
  have hcl := fun W => clone0_k A c W
  go_enter Try.func6, Try.ntmps6
  go_wp2_with (first
    | (go_at_call 16; (with_reducible refine (hcl _).mono ?_); rintro e w1 ⟨A1, c1, rfl, hb1⟩; have hst := fun W => sortstable0_k A1 c1 W)
    | (go_at_call 17; (with_reducible refine (hst _).mono ?_); rintro e w2 ⟨rfl, hb2⟩))
  go_ret
  exact ⟨A1, c1, rfl, hb1.trans (hb2.mono hb1.size)⟩
/-- At A lie these readings. -/
def FlAt (w : World) (A : Option Addr) (d : Array UInt64) : Prop := 0 < d.size → ∃ b off, A = some ⟨b, off, none⟩ ∧ b < w.heap.size ∧ ∀ j, j < d.size → w.cell? ⟨b, off + j, none⟩ = some (encF d[j]!)
theorem FlAt.below {w w' : World} {A : Option Addr} {d : Array UInt64} (h : FlAt w A d) (hb : Below w.heap.size w w') : FlAt w' A d := fun h0 => by
  obtain ⟨b, off, e, hlt, hc⟩ := h h0
  exact ⟨b, off, e, Nat.lt_of_lt_of_le hlt hb.size, fun j hj => (hb.cell (p := ⟨b, off + j, none⟩) hlt).trans (hc j hj)⟩
def IsFloats (d : Array UInt64) : Value → World → Prop := fun v w => ∃ A c, v = .slice A d.size c ∧ FlAt w A d
/-- One for each number below n, as a list. -/
theorem list_of {α : Type} {P : Nat → α → Prop} : ∀ n : Nat, (∀ i, i < n → ∃ p, P i p) → ∃ xs : List α, xs.length = n ∧ ∀ i p, xs[i]? = some p → P i p
  | 0, _ => ⟨[], rfl, fun i p h => by simp at h⟩
  | n + 1, h => by
    obtain ⟨xs, hl, hx⟩ := list_of n (fun i hi => h i (by omega))
    obtain ⟨p, hp⟩ := h n (by omega)
    refine ⟨xs ++ [p], by simp [hl], fun i q hq => ?_⟩
    rw [List.getElem?_append] at hq
    split at hq
    · exact hx i q hq
    · have hi : i - xs.length = 0 := by
        rcases Nat.eq_zero_or_pos (i - xs.length) with h | h
        · exact h
        · rw [List.getElem?_eq_none (by simp; omega)] at hq; cases hq
      rw [hi] at hq
      simp at hq
      subst hq
      have : i = n := by omega
      subst this
      exact hp
section
variable {H : Type} {enc : TypeId × Value → H} {w : World} {base : Nat} {spare : Nat → Bool} {held : Bool}
theorem trod_f64 {fuel : Nat} {cs : List Value} {x : DataW H × List MemPlace} (h : DataW.trod enc Try.prog w base spare held fuel 26 cs = some x) : ∃ b, cs = [.float .f64 b] ∧ b < 2 ^ 64 := by
  cases fuel with
  | zero => simp [DataW.trod] at h
  | succ n =>
    unfold DataW.trod at h
    rw [Try.underlying26] at h
    split at h <;> simp_all [Lit.wf]
    rename_i k k' b e
    subst e
    simp at h
    exact ⟨b, ⟨h.1.1, rfl⟩, h.1.2⟩
theorem cell_ltF {w : World} {a : Addr} {v : Value} (h : w.cell? a = some v) : a.block < w.heap.size := by
  rcases Nat.lt_or_ge a.block w.heap.size with hl | hl
  · exact hl
  · simp [World.cell?, Array.getElem?_eq_none hl] at h
theorem open_floats {r : Reach} {b0 : Nat} {v : Value} {d : DataW H} {p : List MemPlace} (hv : Value.okWide Try.prog w r b0 22 v) (h : DataW.Trod enc Try.prog w base (fun _ => true) held 22 v d p) : ∃ xs, IsFloats xs v w := by
  obtain ⟨A, n, c, rfl⟩ := okWide_slice Try.underlying22 hv
  obtain ⟨fuel, hf⟩ := h
  have hc1 : Try.prog.cellsOf 26 = 1 := by kernel_rfl
  rcases Go.Deep.open_slice Try.underlying22 hf with ⟨h0, _⟩ | ⟨a, len, cap, m, k, D, Pl, hcs, _, hl, hm, hmm, _, hi⟩
  · simp [Value.cells] at h0
    obtain ⟨rfl, rfl, rfl⟩ := h0
    exact ⟨#[], none, 0, rfl, fun h => absurd h (by simp)⟩
  · simp [Value.cells] at hcs
    obtain ⟨rfl, rfl, rfl⟩ := hcs
    simp only [if_true] at hmm
    subst hmm
    rw [hc1] at hi
    obtain ⟨xs, hxl, hx⟩ := list_of (P := fun i (x : UInt64) => w.cell? (a.add (i * 1)) = some (encF x)) n (fun i hlt => by
      obtain ⟨cs', hc, ht⟩ := hi i (by omega)
      obtain ⟨b, rfl, hb⟩ := trod_f64 ht
      obtain ⟨_, hcl, hat⟩ := World.cells?_some hc
      refine ⟨UInt64.ofNat b, ?_⟩
      have := hat 0 (by simp)
      rw [Go.Deep.add_add] at this
      simp only [Nat.add_zero] at this
      rw [this]
      unfold encF
      simp only [List.getElem?_cons_zero, UInt64.toNat_ofNat']
      rw [Nat.mod_eq_of_lt hb])
    refine ⟨xs.toArray, some a, m, by simp [hxl], fun h0 => ?_⟩
    have hz : xs.toArray.size = n := by simp [hxl]
    have hcell : ∀ j, j < n → w.cell? (a.add j) = some (encF xs.toArray[j]!) := fun j hj => by
      have := hx j (xs[j]'(by omega)) (List.getElem?_eq_getElem _)
      rw [Nat.mul_one] at this
      rw [this, getElem!_pos xs.toArray j (by omega)]
      simp
    obtain ⟨ab, ao, spot⟩ := a
    have hspot : spot = none := by simpa [Addr.add] using World.cell?_spot (hcell 0 (by omega))
    subst hspot
    exact ⟨ab, ao, rfl, by simpa [Addr.add] using cell_ltF (hcell 0 (by omega)), fun j hj => by have := hcell j (by omega); rwa [Addr.add_lit] at this⟩
end
end Go.Proofs.Ytoneofdihknnoab
