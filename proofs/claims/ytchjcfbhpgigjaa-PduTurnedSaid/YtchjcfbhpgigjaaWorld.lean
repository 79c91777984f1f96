/- Small laws on worlds: a store into a block that was just laid, or past one; what stays below; blocks known whole. -/
import Derived.Below
import Derived.Laws.OwnMore
import Derived.Deep.Draws
import Derived.Laws.Rows
import Derived.WalkKit
import Derived.ChangeKeysEq
namespace Go.Proofs.Ytchjcfbhpgigjaa
open Go.RowKit

theorem set_new (w : World) (A : Array Value) (t : TypeId) (b i : Nat) (v : Value) (hb : b = w.heap.size) :
    (w.alloc (.cells A t)).setCell ⟨b, i, none⟩ v = w.alloc (.cells (A.setIfInBounds i v) t) := by
  subst hb
  unfold World.alloc World.setCell
  simp only
  congr 1
  apply Array.ext
  · simp
  · intro j h1 h2
    simp only [Array.getElem_modify, Array.getElem_push]
    simp only [Array.size_modify, Array.size_push] at h1
    by_cases h : j < w.heap.size
    · have hn : w.heap.size ≠ j := by omega
      simp [h, hn]
    · have hn : w.heap.size = j := by omega
      simp [hn]
theorem set_old (w : World) (o : Obj) (b i : Nat) (v : Value) (hb : b < w.heap.size) :
    (w.alloc o).setCell ⟨b, i, none⟩ v = (w.setCell ⟨b, i, none⟩ v).alloc o := by
  unfold World.alloc World.setCell
  simp only
  congr 1
  apply Array.ext
  · simp
  · intro j h1 h2
    simp only [Array.getElem_modify, Array.getElem_push, Array.size_modify]
    simp only [Array.size_modify, Array.size_push] at h1
    by_cases h : j < w.heap.size
    · simp [h]
    · have hn : b ≠ j := by omega
      simp [h, hn]
theorem set_drewN (w : World) (n : Nat) (p : Addr) (v : Value) : (w.drewN n).setCell p v = (w.setCell p v).drewN n := rfl
theorem alloc_drewN (w : World) (n : Nat) (o : Obj) : (w.drewN n).alloc o = (w.alloc o).drewN n := rfl
theorem below_drewN {B : Nat} {a w : World} (h : Below B a w) (n : Nat) : Below B a (w.drewN n) := ⟨h.os, h.tape, h.output, h.size, h.block⟩
theorem below_of_drewN {B : Nat} {a w : World} (n : Nat) (h : Below B (a.drewN n) w) : Below B a w := ⟨h.os, h.tape, h.output, h.size, h.block⟩

/-- What stays behind a call that was made with a block laid ahead of it. -/
theorem below_of_alloc {w w' : World} {o : Obj} (h : Below (w.alloc o).heap.size (w.alloc o) w') : Below w.heap.size w w' :=
  ((Below.refl _ _).alloc (Nat.le_refl _) o).trans (h.mono (by simp))
theorem below_of_alloc2 {w w' : World} {o1 o2 : Obj} (h : Below ((w.alloc o1).alloc o2).heap.size ((w.alloc o1).alloc o2) w') : Below (w.alloc o1).heap.size (w.alloc o1) w' := below_of_alloc h
/-- Two calls, one behind the other. -/
theorem below_then {w w1 w2 : World} (h : Below w.heap.size w w1) (k : Below w1.heap.size w1 w2) : Below w.heap.size w w2 := h.trans (k.mono h.size)
/-- Block g is just the cells cs of element type t, none of them frozen. -/
def Blk (w : World) (g : Nat) (t : TypeId) (cs : Array Value) : Prop := w.heap[g]? = some (.cells cs t (0, 0))
section
variable {w w' : World} {g : Nat} {t : TypeId} {cs : Array Value}
theorem Blk.lt (h : Blk w g t cs) : g < w.heap.size := by
  rcases Nat.lt_or_ge g w.heap.size with hlt | hge
  · exact hlt
  · unfold Blk at h; rw [Array.getElem?_eq_none hge] at h; cases h
theorem Blk.cell (h : Blk w g t cs) (i : Nat) : w.cell? ⟨g, i, none⟩ = cs[i]? := cell_of_row w g i cs t (0, 0) h
theorem Blk.frozen (h : Blk w g t cs) (i : Nat) : w.frozen? ⟨g, i, none⟩ = false := by
  unfold Blk at h
  simp [World.frozen?, h]
theorem Blk.new (w : World) (t : TypeId) (cs : Array Value) : Blk (w.alloc (.cells cs t)) w.heap.size t cs := heap_alloc_new w _
theorem Blk.newAt (w : World) (t : TypeId) (cs : Array Value) (g : Nat) (hg : g = w.heap.size) : Blk (w.alloc (.cells cs t)) g t cs := hg ▸ heap_alloc_new w _
theorem Blk.drewN (h : Blk w g t cs) (n : Nat) : Blk (w.drewN n) g t cs := h
theorem Blk.drew (h : Blk w g t cs) : Blk w.drew g t cs := h
theorem Blk.alloc (h : Blk w g t cs) (o : Obj) : Blk (w.alloc o) g t cs := (Below.heap_alloc w o g h.lt).trans h
theorem Blk.set_ (h : Blk w g t cs) (i : Nat) (u : Value) : Blk (w.setCell ⟨g, i, none⟩ u) g t (cs.setIfInBounds i u) := by
  unfold Blk at h ⊢
  simp [World.setCell, Array.getElem?_modify, h]
theorem Blk.far (h : Blk w g t cs) {p : Addr} (hp : g ≠ p.block) (u : Value) : Blk (w.setCell p u) g t cs := (Below.heap_setCell w p u g hp).trans h
theorem Blk.below {B : Nat} (h : Blk w g t cs) (hb : Below B w w') (hg : g < B) : Blk w' g t cs := (hb.block g hg).trans h
theorem Blk.grown {row : Option Nat} (h : Blk w g t cs) (hb : w.grownBy w' row) (hg : some g ≠ row) : Blk w' g t cs := (hb.block g h.lt hg).trans h
end
theorem Blk.row {w : World} {g : Nat} {t : TypeId} {old : Array Value} (h : Blk w g t old) (cs : Array Value) : Blk (w.setRow g cs) g t cs := setRow_heap w g old cs t (0, 0) h
theorem Blk.rowFar {w : World} {g k : Nat} {t : TypeId} {cs : Array Value} (h : Blk w g t cs) (hk : g ≠ k) (new : Array Value) : Blk (w.setRow k new) g t cs := (setRow_other w k g new hk).trans h
theorem below_row {B : Nat} {a w : World} (h : Below B a w) {g : Nat} (hg : B ≤ g) (cs : Array Value) : Below B a (w.setRow g cs) :=
  ⟨h.os, h.tape, h.output, by simpa using h.size, fun i hi => (setRow_other w g i cs (by omega)).trans (h.block i hi)⟩
/-- An element of an array that is a value: a row of cells. -/
theorem run_index_row {P : Program} (t e : TypeId) (n : Nat) (cs : Array Value) (k : IntKind) (i : Int) (v : Value) (ht : P.underlying t = some (.array n e))
    (he : ∀ w : World, (isAgg e).run P w = .ok false w) (hs : (P.info? e).map (·.size) = some 1) (h0 : 0 ≤ i) (h1 : i < n) (hv : cs[i.toNat]? = some v) (w : World) :
    (Instr.index t (.agg cs) (.int k i)).run P w = .ok v w := by
  cases hq : P.info? e with
  | none => simp [hq] at hs
  | some j =>
    have hj : j.size = 1 := by simpa [hq] using hs
    simp [Instr.index, asIntOf, run_underlying ht, h0, h1, sizeOf, typeInfo, hq, hj, part, he w, hv]
/-- A whole row loaded out of a block that is known. -/
theorem wpList_load_blk {P : Program} {ops : Array Oper} {rest : List Oper} {o : Oper} {a : Act} {w : World} {Q : Exit → Act → World → Prop} (hgd : o.guard = none) (ty : TypeId) (x : Operand) (ho : o.op = .load ty x)
    (g : Nat) (hx : a.eval x = .pointer (some ⟨g, 0, none⟩)) (t : TypeId) (cs : Array Value) (d : TypeDesc) (hg : Blk w g t cs)
    (hu : P.underlying ty = some d) (hd : (match d with | .struct _ | .array _ _ => true | _ => false) = true) (hi : (P.info? ty).map (·.size) = some cs.size)
    (h : wpList P ops Q rest (a.put o.dst (.agg cs)) w) : wpList P ops Q (o :: rest) a w :=
  wpList_load_row hgd ty x ho g hx t cs (0, 0) d hg hu hd hi h
/-- A whole row stored into a block of the call's own: behind it the world is a new letter, of which only this is known. -/
theorem wpList_store_own {P : Program} {ops : Array Oper} {rest : List Oper} {o : Oper} {a : Act} {w : World} {Q : Exit → Act → World → Prop} (hgd : o.guard = none) (ty : TypeId) (x y : Operand) (ho : o.op = .store ty x y)
    (g : Nat) (cells : Array Value) (hx : a.eval x = .pointer (some ⟨g, 0, none⟩)) (hy : a.eval y = .agg cells)
    (t : TypeId) (old : Array Value) (hg : Blk w g t old) (hi : (P.info? ty).map (·.size) = some cells.size)
    (hold : old.size = cells.size) (h1 : cells.all (·.oneCell') = true)
    (B : Nat) (w0 : World) (hb : Below B w0 w) (hB : B ≤ g)
    (h : ∀ W : World, Blk W g t cells → Below B w0 W → W.heap.size = w.heap.size → (∀ (g' : Nat) (t' : TypeId) (cs' : Array Value), g' ≠ g → Blk w g' t' cs' → Blk W g' t' cs') → wpList P ops Q rest (a.put o.dst undef) W) :
    wpList P ops Q (o :: rest) a w :=
  wpList_store_row hgd ty x y ho g cells hx hy t old hg hi hold h1
    (h _ (Blk.row hg _) (below_row hb hB _) (by simp) fun _ _ _ hne hk => hk.rowFar hne _)
/-- Two arrays that are values, cell by cell. -/
theorem eqItems_cells {P : Program} {e : TypeId} (d : Nat) (xs ys : Array Value) (he : ∀ w : World, (isAgg e).run P w = .ok false w) (x y : Nat → Value) (b : Nat → Bool) (w : World) : ∀ is : List Nat,
    (∀ i ∈ is, xs[i]? = some (x i) ∧ ys[i]? = some (y i) ∧ (Op.equalIn d e (x i) (y i)).run P w = .ok (b i) w) → (Op.eqItems d e 1 xs ys is).run P w = .ok (is.all b) w
  | [], _ => by simp [Op.eqItems]
  | i :: is, h => by
    obtain ⟨h1, h2, h3⟩ := h i (by simp)
    have ih := eqItems_cells d xs ys he x y b w is (fun j hj => h j (by simp [hj]))
    simp only [Op.eqItems, part, Sem.run_bind, he w, Nat.mul_one, h1, h2, Result.andThen_ok, Bool.false_eq_true, if_false, Sem.run_ite, Sem.run_pure, h3, ih, List.all_cons]
    cases b i <;> simp
theorem run_eql_row {P : Program} {t e : TypeId} {n : Nat} {i : TypeInfo} (xs ys : Array Value) (hu : P.underlying t = some (.array n e)) (hi : P.info? e = some i) (hc : P.cellsOf e = 1)
    (he : ∀ w : World, (isAgg e).run P w = .ok false w) (x y : Nat → Value) (b : Nat → Bool) (w : World)
    (h : ∀ i, i < n → xs[i]? = some (x i) ∧ ys[i]? = some (y i) ∧ (Op.equalIn 9999 e (x i) (y i)).run P w = .ok (b i) w) :
    (binOp .eql t (.agg xs) (.agg ys)).run P w = .ok (.bool ((List.range n).all b)) w := by
  have h1 : (Op.equalIn 10000 t (.agg xs) (.agg ys)).run P w = .ok ((List.range n).all b) w := by
    rw [run_equalIn_array w 9999 xs ys hu hi, hc]
    exact eqItems_cells 9999 xs ys he x y b w _ (fun i hi' => h i (by simpa using hi'))
  simp only [binOp]
  simp [Op.equal, Op.maxDepth, h1]
theorem bcell {W w1 : World} (hb : Below W.heap.size W w1) : (∀ b o, b < W.heap.size → w1.cell? ⟨b, o, none⟩ = W.cell? ⟨b, o, none⟩) ∧ (∀ b o, b < W.heap.size → w1.frozen? ⟨b, o, none⟩ = W.frozen? ⟨b, o, none⟩) :=
  ⟨fun b o h => hb.cell (p := ⟨b, o, none⟩) h, fun b o h => hb.frozen (p := ⟨b, o, none⟩) h⟩
end Go.Proofs.Ytchjcfbhpgigjaa
