/- A store of one cell into a block of the call's own; a loaded cell of such a block; a number of 64 bits as an int. -/
import Derived.Test.YtchjcfbhpgigjaaWorld
import Derived.Test.YtchjcfbhpgigjaaWords
namespace Go.Proofs.Ytchjcfbhpgigjaa
open Go.RowKit

theorem run_storeVar_cell {P : Program} (w : World) (g i : Nat) (t ty : TypeId) (old : Array Value) (v : Value) (hg : Blk w g t old) (hi : i < old.size) (hs : (P.info? ty).map (·.size) = some 1) (h1 : v.oneCell' = true) :
    (storeVar ty ⟨g, i, none⟩ v).run P w = .ok () (w.setCell ⟨g, i, none⟩ v) := by
  have hc : v.cells = #[v] := by cases v <;> first | rfl | cases h1
  have hcell : w.cell? ⟨g, i, none⟩ = some old[i] := by rw [hg.cell]; simp [hi]
  have hfr := hg.frozen i
  cases hq : P.info? ty with
  | none => simp [hq] at hs
  | some j =>
    have hj : j.size = 1 := by simpa [hq] using hs
    have hadd : Addr.add ⟨g, i, none⟩ 0 = ⟨g, i, none⟩ := by simp [Addr.add]
    simp [storeVar, sizeOf, typeInfo, hq, hc, hj, storeCells, run_store, h1, hcell, hfr, hadd]
/-- One cell stored into a block of the call's own: behind it the world is a new letter, of which only this is known. -/
theorem wpList_store_cell {P : Program} {ops : Array Oper} {rest : List Oper} {o : Oper} {a : Act} {w : World} {Q : Exit → Act → World → Prop} (hgd : o.guard = none) (ty : TypeId) (x y : Operand) (ho : o.op = .store ty x y)
    (g i : Nat) (v : Value) (hx : a.eval x = .pointer (some ⟨g, i, none⟩)) (hy : a.eval y = v)
    (t : TypeId) (old : Array Value) (hg : Blk w g t old) (hil : i < old.size) (hi : (P.info? ty).map (·.size) = some 1) (h1 : v.oneCell' = true)
    (B : Nat) (w0 : World) (hb : Below B w0 w) (hB : B ≤ g)
    (h : ∀ W : World, Blk W g t (old.setIfInBounds i v) → Below B w0 W → W.heap.size = w.heap.size → (∀ (g' : Nat) (t' : TypeId) (cs' : Array Value), g' ≠ g → Blk w g' t' cs' → Blk W g' t' cs') → (∀ B', B' ≤ g → Below B' w W) → wpList P ops Q rest (a.put o.dst undef) W) :
    wpList P ops Q (o :: rest) a w :=
  wpList_plain hgd fun K hK => by
    have hrun := run_storeVar_cell (P := P) w g i t ty old v hg hil hi h1
    have hbe : ∀ B', B' ≤ g → Below B' w (w.setCell ⟨g, i, none⟩ v) := fun B' hB' => (Below.refl _ _).setCell hB' v
    unfold Oper.wp execOp
    simp only [ho, hx, hy, Instr.storeAt, Instr.sureAddr, Sem.run_bind, Sem.run_pure, Result.andThen_ok, hrun]
    exact hK _ _ (h _ (hg.set_ i v) (hb.trans (hbe B hB)) (by simp [World.setCell]) (fun g' t' cs' hne hk => hk.far hne v) hbe)
/-- A whole row stored into a block of the call's own; no other block changes. -/
theorem wpList_store_own2 {P : Program} {ops : Array Oper} {rest : List Oper} {o : Oper} {a : Act} {w : World} {Q : Exit → Act → World → Prop} (hgd : o.guard = none) (ty : TypeId) (x y : Operand) (ho : o.op = .store ty x y)
    (g : Nat) (cells : Array Value) (hx : a.eval x = .pointer (some ⟨g, 0, none⟩)) (hy : a.eval y = .agg cells)
    (t : TypeId) (old : Array Value) (hg : Blk w g t old) (hi : (P.info? ty).map (·.size) = some cells.size)
    (hold : old.size = cells.size) (h1 : cells.all (·.oneCell') = true)
    (B : Nat) (w0 : World) (hb : Below B w0 w) (hB : B ≤ g)
    (h : ∀ W : World, Blk W g t cells → Below B w0 W → W.heap.size = w.heap.size → (∀ k, k ≠ g → W.heap[k]? = w.heap[k]?) → wpList P ops Q rest (a.put o.dst undef) W) :
    wpList P ops Q (o :: rest) a w :=
  wpList_store_row hgd ty x y ho g cells hx hy t old hg hi hold h1
    (h _ (Blk.row hg _) (below_row hb hB _) (by simp) fun k hk => setRow_other w g k cells hk)
section
variable {P : Program} (w : World) (src dst : TypeId)
theorem conv_64_i64 (a : BitVec 64) (h : a.toNat < 9223372036854775808) (hs : (P.underlying src).isSome = true) (hd : P.underlying dst = some (.int .i64)) :
    (convert src dst (q64 a)).run P w = .ok (.int .i64 a.toNat) w := by
  obtain ⟨d, hd'⟩ := Option.isSome_iff_exists.mp hs
  have e : IntKind.i64.wrap (a.toNat : Int) = (a.toNat : Int) := by
    rw [IntKind.wrap_i64]; omega
  simp [q64, convert, run_underlying hd', run_underlying hd, Conv.intToInt, e]
end
end Go.Proofs.Ytchjcfbhpgigjaa
