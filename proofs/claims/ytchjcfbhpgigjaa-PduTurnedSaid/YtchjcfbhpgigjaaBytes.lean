/- Bytes in memory: a slice that reads as a list of bytes (nil let in). -/
import Derived.Test.YtchjcfbhpgigjaaWords
import Derived.Test.YtchjcfbhpgigjaaWorld
import Derived.Test.YtchjcfbhpgigjaaSlice
import Derived.Test.YtchjcfbhpgigjaaMacMath
namespace Go.Proofs.Ytchjcfbhpgigjaa
open Go.RowKit

/-- The slice's address leads to a row of cells that holds these values; nothing is asked of an empty one. -/
def Row (w : World) (A : Option Addr) (xs : List Value) : Prop :=
  0 < xs.length → ∃ b off, A = some ⟨b, off, none⟩ ∧ b < w.heap.size ∧ ∀ j u, xs[j]? = some u → w.cell? ⟨b, off + j, none⟩ = some u
section
variable {w w' : World} {A : Option Addr} {xs : List Value}
theorem Row.nil (w : World) (A : Option Addr) : Row w A [] := fun h => absurd h (by simp)
theorem Row.keep (h : Row w A xs) (hz : w.heap.size ≤ w'.heap.size) (hk : ∀ b o, b < w.heap.size → w'.cell? ⟨b, o, none⟩ = w.cell? ⟨b, o, none⟩) : Row w' A xs := fun hx => by
  obtain ⟨b, off, e, hb, hc⟩ := h hx
  exact ⟨b, off, e, by omega, fun j u hu => (hk b _ hb).trans (hc j u hu)⟩
theorem Row.below (h : Row w A xs) (hb : Below w.heap.size w w') : Row w' A xs := h.keep hb.size fun b o hlt => hb.cell (p := ⟨b, o, none⟩) hlt
theorem Row.alloc (h : Row w A xs) (o : Obj) : Row (w.alloc o) A xs := h.below ((Below.refl _ _).alloc (Nat.le_refl _) o)
theorem Row.drewN (h : Row w A xs) (n : Nat) : Row (w.drewN n) A xs := h
theorem Row.drew (h : Row w A xs) : Row w.drew A xs := h
theorem Row.block {g : Nat} {t : TypeId} {cs : Array Value} (h : Blk w g t cs) : Row w (some ⟨g, 0, none⟩) cs.toList := fun _ =>
  ⟨g, 0, rfl, h.lt, fun j u hu => by rw [Nat.zero_add, h.cell]; simpa using hu⟩
theorem Row.own {base : Nat} {e : TypeId} {g n c : Nat} (h : w.ownsRow base e 1 (.slice (some ⟨g, 0, none⟩) n c) n xs) : Row w (some ⟨g, 0, none⟩) xs := fun _ =>
  ⟨g, 0, rfl, (h.lt g rfl).2, fun j u hu => by
    have hj : j < n * 1 := by
      have h1 := h.1
      have h2 : j < xs.length := by
        rcases Nat.lt_or_ge j xs.length with h | h
        · exact h
        · rw [List.getElem?_eq_none h] at hu; cases hu
      omega
    rw [Nat.zero_add, h.cellAt j hj]; exact hu⟩
theorem Row.reads {n : Nat} (h : Row w A xs) (hn : xs.length = n) : Reads w w.heap.size 1 A n xs := ⟨by omega, fun h0 => by
  obtain ⟨b, off, e, hb, hc⟩ := h (by omega)
  refine ⟨⟨b, off, none⟩, e, hb, fun j u hu => ?_⟩
  rw [show (⟨b, off, none⟩ : Addr).add j = ⟨b, off + j, none⟩ by unfold Addr.add; split <;> simp_all]
  exact hc j u hu⟩
theorem Row.at_ {k : Nat} {u : Value} (h : Row w A xs) (hk : xs[k]? = some u) : ∃ b off, A = some ⟨b, off, none⟩ ∧ b < w.heap.size ∧ w.cell? ⟨b, off + k, none⟩ = some u := by
  have hl : 0 < xs.length := by
    rcases Nat.eq_zero_or_pos xs.length with h0 | h0
    · rw [List.eq_nil_of_length_eq_zero h0] at hk; simp at hk
    · exact h0
  obtain ⟨b, off, e, hb, hc⟩ := h hl
  exact ⟨b, off, e, hb, hc k u hk⟩
end
/-- Bytes as cells. -/
def cellsOf (bs : List UInt8) : List Value := bs.map q8
theorem cellsOf_length (bs : List UInt8) : (cellsOf bs).length = bs.length := by simp [cellsOf]
theorem cellsOf_at (bs : List UInt8) (k : Nat) (h : k < bs.length) : (cellsOf bs)[k]? = some (q8 (nth bs k)) := by
  simp [cellsOf, nth, h, List.getD_eq_getElem?_getD]
theorem cellsOf_append (a b : List UInt8) : cellsOf (a ++ b) = cellsOf a ++ cellsOf b := by simp [cellsOf]
theorem cellsOf_one (bs : List UInt8) : ∀ u ∈ cellsOf bs, u.oneCell' = true := by
  intro u hu
  simp only [cellsOf, List.mem_map] at hu
  obtain ⟨x, _, rfl⟩ := hu
  rfl
/-- The slice A, with so many bytes of capacity, reads as these bytes. -/
structure Bytes (w : World) (A : Option Addr) (c : Nat) (bs : List UInt8) : Prop where
  row : Row w A (cellsOf bs)
  cap : bs.length ≤ c
  max : c ≤ maxLen
section
variable {w w' : World} {A : Option Addr} {c : Nat} {bs : List UInt8}
theorem Bytes.below (h : Bytes w A c bs) (hb : Below w.heap.size w w') : Bytes w' A c bs := ⟨h.row.below hb, h.cap, h.max⟩
theorem Bytes.alloc (h : Bytes w A c bs) (o : Obj) : Bytes (w.alloc o) A c bs := ⟨h.row.alloc o, h.cap, h.max⟩
theorem Bytes.drewN (h : Bytes w A c bs) (n : Nat) : Bytes (w.drewN n) A c bs := ⟨h.row, h.cap, h.max⟩
theorem Bytes.nil (w : World) : Bytes w none 0 [] := ⟨Row.nil _ _, Nat.le_refl _, Nat.zero_le _⟩
theorem Bytes.own {base g n : Nat} {e : TypeId} (h : w.ownsRow base e 1 (.slice (some ⟨g, 0, none⟩) n c) n (cellsOf bs)) : Bytes w (some ⟨g, 0, none⟩) c bs := by
  refine ⟨Row.own h, ?_, ?_⟩
  · rcases h.2 with ⟨h', _⟩ | ⟨g', cap', cur, h', _, _, hnc, _⟩
    · simp at h'
    · simp only [Value.slice.injEq] at h'
      have := h.1
      simp only [cellsOf, List.length_map] at this
      omega
  · rcases h.2 with ⟨h', _⟩ | ⟨g', cap', cur, h', _, _, _, hcm, _⟩
    · simp at h'
    · simp only [Value.slice.injEq] at h'
      omega
theorem Bytes.len_le (h : Bytes w A c bs) : bs.length ≤ 9223372036854775807 := by
  have := h.cap; have := h.max; simp only [maxLen] at this; omega
theorem Bytes.at_ {k : Nat} (h : Bytes w A c bs) (hk : k < bs.length) : ∃ b off, A = some ⟨b, off, none⟩ ∧ b < w.heap.size ∧ w.cell? ⟨b, off + k, none⟩ = some (q8 (nth bs k)) :=
  h.row.at_ (cellsOf_at bs k hk)
end
/-- A value that is a slice which reads as these bytes: a word that no growth of the world can undo. -/
def IsBytes (bs : List UInt8) : Value → World → Prop := fun v w => ∃ A c, v = .slice A bs.length c ∧ Bytes w A c bs
theorem IsBytes.grow {bs : List UInt8} {v : Value} {w w' : World} (h : IsBytes bs v w) (hb : Below w.heap.size w w') : IsBytes bs v w' := by
  obtain ⟨A, c, e, hB⟩ := h
  exact ⟨A, c, e, hB.below hb⟩
end Go.Proofs.Ytchjcfbhpgigjaa
