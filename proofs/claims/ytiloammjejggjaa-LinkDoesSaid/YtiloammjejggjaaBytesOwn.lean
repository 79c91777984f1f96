/- Bytes of the call's own, and append onto them. -/
import Derived.Test.YtiloammjejggjaaChecked
import Derived.Test.YtiloammjejggjaaGround
namespace Go.Proofs.Ytiloammjejggjaa
open Go.RowKit

theorem info_u8 : (Try.prog.info? 5).map (fun i => (i.zero, i.size, i.bytes)) = some (some (.int .u8 0), 1, 1) := by kernel_rfl
/-- The slice is a row of the call's own, at or above base (or nil), and reads as these bytes. -/
def OwnB (w : World) (base : Nat) (A : Option Addr) (c : Nat) (bs : List UInt8) : Prop := w.ownsRow base 5 1 (.slice A bs.length c) bs.length (cellsOf bs)
def rowOf (A : Option Addr) : Option Nat := A.map (·.block)
section
variable {w w' : World} {base : Nat} {A : Option Addr} {c : Nat} {bs : List UInt8}
theorem OwnB.nil (w : World) (base : Nat) : OwnB w base none 0 [] := World.ownsRow_nil w base _ 1
theorem OwnB.bytes (h : OwnB w base A c bs) : Bytes w A c bs := by
  rcases h.2 with ⟨h', _⟩ | ⟨g', cap', cur, h', _⟩
  · simp only [Value.slice.injEq] at h'
    obtain ⟨rfl, h0, rfl⟩ := h'
    rw [List.eq_nil_of_length_eq_zero h0]
    exact Bytes.nil _
  · simp only [Value.slice.injEq] at h'
    obtain ⟨rfl, _, rfl⟩ := h'
    exact Bytes.own h
theorem OwnB.below (h : OwnB w base A c bs) (hb : Below w.heap.size w w') : OwnB w' base A c bs := own_below h hb
theorem OwnB.alloc (h : OwnB w base A c bs) (o : Obj) : OwnB (w.alloc o) base A c bs := World.ownsRow.alloc h o
theorem OwnB.drew (h : OwnB w base A c bs) : OwnB w.drew base A c bs := h
theorem OwnB.drewN (h : OwnB w base A c bs) (n : Nat) : OwnB (w.drewN n) base A c bs := h
theorem ownBlock_slice (A : Option Addr) (n c : Nat) : (Value.slice A n c).ownBlock = rowOf A := by cases A <;> rfl
theorem OwnB.row_ge (h : OwnB w base A c bs) : ∀ g, rowOf A = some g → base ≤ g ∧ g < w.heap.size := by
  have := World.ownsRow.lt h
  rw [ownBlock_slice] at this
  exact this
theorem OwnB.addr (h : OwnB w base A c bs) (hn : 0 < bs.length) : ∃ g, A = some ⟨g, 0, none⟩ ∧ base ≤ g ∧ g < w.heap.size := by
  obtain ⟨g, cap, e, h1, h2⟩ := World.ownsRow.form h hn
  simp only [Value.slice.injEq] at e
  exact ⟨g, e.1, h1, h2⟩
/-- One byte stored. -/
theorem OwnB.stored {g : Nat} (h : OwnB w base (some ⟨g, 0, none⟩) c bs) (k : Nat) (x : UInt8) :
    OwnB (w.setCell ⟨g, k, none⟩ (q8 x)) base (some ⟨g, 0, none⟩) c (bs.set k x) := by
  have := (World.ownsRow.stored h k (q8 x)).1
  unfold OwnB
  rw [List.length_set, show cellsOf (bs.set k x) = (cellsOf bs).set k (q8 x) by simp [cellsOf, List.map_set]]
  exact this
end
section
variable {P : Program} {w : World}
theorem wpList_app_bytes {ops : Array Oper} {rest : List Oper} {o : Oper} {a : Act} {Q : Exit → Act → World → Prop} (hgd : o.guard = none) (s x : Operand) 
    (ho : o.op = .call { callee := .builtin .append, args := #[s, x], argTypes := #[33, 33] })
    (base : Nat) (A1 : Option Addr) (c1 : Nat) (xs : List UInt8) (n1 : Nat) (hs : a.eval s = .slice A1 n1 c1) (hn1 : n1 = xs.length) (hown : OwnB w base A1 c1 xs)
    (A : Option Addr) (c : Nat) (bs : List UInt8) (n : Nat) (hx : a.eval x = .slice A n c) (hn : n = bs.length) (hr : Bytes w A c bs) (hlen : xs.length + bs.length ≤ 140737488355328) (hbase : base ≤ w.heap.size)
    (h : ∀ A2 c2 W, OwnB W base A2 c2 (xs ++ bs) → w.grownBy W (rowOf A1) → Below base w W → wpList Try.prog ops Q rest (a.put o.dst (.slice A2 (n1 + n) c2)) W) : wpList Try.prog ops Q (o :: rest) a w := by
  subst hn1
  subst hn
  obtain ⟨i0, hi0, hz0, hz1, hz2⟩ := info_parts info_u8
  refine wpList_append_any w hgd s x 33 ho base 5 i0 _ 1 1 Try.underlying33 hi0 hz0 hz1 hz2 rfl (by omega) _ _ _ hs hown w.heap.size A bs.length c (cellsOf bs) hx (hr.row.reads (cellsOf_length bs)) (cellsOf_one bs) (by simp only [maxLen]; omega) (by omega) hbase ?_
  intro v' W h1 h2 h3
  rw [ownBlock_slice] at h2
  have hb : Below base w W := (Below.refl base w).grown h2 hbase (fun k hk => (hown.row_ge k hk).1)
  have h4 : ∃ A2 c2, v' = .slice A2 (xs.length + bs.length) c2 := by
    rcases h1.2 with ⟨e, h0⟩ | ⟨g, cap, _, e, _⟩
    · exact ⟨none, 0, by rw [e, h0]⟩
    · exact ⟨_, _, e⟩
  obtain ⟨A2, c2, rfl⟩ := h4
  refine h A2 c2 W ?_ h2 hb
  unfold OwnB
  rw [List.length_append, cellsOf_append]
  exact h1
end
end Go.Proofs.Ytiloammjejggjaa
