/- Rows of messages: cut, copied, cleared; noughts appended. -/
import Derived.Test.YtiloammjejggjaaLinkCopied
import Derived.Lib.Overlaps
set_option linter.unusedSimpArgs false
set_option linter.unusedVariables false
namespace Go.Proofs.Ytiloammjejggjaa
open Go.RowKit

theorem wait_of : Try.prog.underlying 23 = some (.slice 35) := Try.underlying23
theorem wait_elem : Try.prog.elem 23 = 35 := by kernel_rfl
theorem wait_of' : Try.prog.underlying 23 = some (.slice (Try.prog.elem 23)) := by rw [wait_elem]; exact wait_of
theorem wait_size (w : World) : (sizeOf 35).run Try.prog w = .ok 4 w := by
  have h : (Try.prog.info? 35).map (·.size) = some 4 := by kernel_rfl
  cases hq : Try.prog.info? 35 with
  | none => rw [hq] at h; cases h
  | some j =>
    have hj : j.size = 4 := by simpa [hq] using h
    simp [sizeOf, typeInfo, hq, hj]
theorem wait_zero (w : World) : (zeroValue 35).run Try.prog w = .ok wzero w := by
  have h : (Try.prog.info? 35).map (·.zero) = some (some wzero) := by kernel_rfl
  cases hq : Try.prog.info? 35 with
  | none => rw [hq] at h; cases h
  | some j =>
    have hj : j.zero = some wzero := by simpa [hq] using h
    simp [zeroValue, typeInfo, hq, hj]
theorem add0 (g i : Nat) : (⟨g, 0, none⟩ : Addr).add i = ⟨g, i, none⟩ := by rw [Addr.add_lit]; simp
section
variable (w : World) (g len cap : Nat)
theorem slice_w_l (i : Nat) (h1 : i ≤ len) (h2 : i < cap) : (Instr.slice 23 (.slice (some ⟨g, 0, none⟩) len cap) (some (.int .i64 (i : Int))) none none).run Try.prog w = .ok (.slice (some ⟨g, i * 4, none⟩) (len - i) (cap - i)) w := by
  rw [run_slice_l w 23 (some ⟨g, 0, none⟩) len cap wait_of' .i64 i (by omega) (by omega), wait_elem, wait_size]
  simp [Result.andThen, sliced, add0]
  omega
theorem slice_w_h (i : Nat) (h1 : i ≤ cap) : (Instr.slice 23 (.slice (some ⟨g, 0, none⟩) len cap) none (some (.int .i64 (i : Int))) none).run Try.prog w = .ok (.slice (some ⟨g, 0, none⟩) i cap) w := by
  rw [run_slice_h w 23 (some ⟨g, 0, none⟩) len cap wait_of' .i64 i (by omega) (by omega), wait_elem, wait_size]
  simp [Result.andThen, sliced, add0]
end
/-- Cells laid over a block's. -/
def lay (cur : Array Value) (o : Nat) (cs : List Value) : Array Value := (cur.toList.take o ++ cs ++ cur.toList.drop (o + cs.length)).toArray
theorem lay_size (cur : Array Value) (o : Nat) (cs : List Value) (h : o + cs.length ≤ cur.size) : (lay cur o cs).size = cur.size := by simp [lay]; omega
theorem lay_take (cur : Array Value) (o : Nat) (cs : List Value) (h : o + cs.length ≤ cur.size) : (lay cur o cs).toList.take (o + cs.length) = cur.toList.take o ++ cs := by
  unfold lay
  rw [List.take_append_of_le_length (by simp; omega)]
  exact List.take_of_length_le (by simp; omega)
theorem lay_ahead (cur : Array Value) (o k : Nat) (cs : List Value) (hk : k ≤ o) (h : o + cs.length ≤ cur.size) : (lay cur o cs).toList.take k = cur.toList.take k := by
  unfold lay
  rw [List.append_assoc, List.take_append_of_le_length (by simp; omega), List.take_take, Nat.min_eq_left hk]
theorem lay_drop (cur : Array Value) (o k m : Nat) (cs : List Value) (hk : o + cs.length ≤ k) (h : o + cs.length ≤ cur.size) : ((lay cur o cs).toList.drop k).take m = (cur.toList.drop k).take m := by
  unfold lay
  have e : k = (cur.toList.take o ++ cs).length + (k - (o + cs.length)) := by simp; omega
  conv => lhs; rw [e]
  rw [List.drop_append]
  simp only [List.drop_drop, Nat.add_sub_cancel_left]
  rw [List.drop_eq_nil_of_le (by omega), List.nil_append]
  congr 2
  omega
theorem run_copy_w {w : World} {ty : TypeId} (g o dl dc sb so sl sc : Nat) (cur : Array Value) (cs : List Value) (m : Nat) (hg : Blk w g 35 cur) (hm : Nat.min sl dl = m) (hcs : cs.length = m * 4) (hsrc : ∀ j v, cs[j]? = some v → w.cell? ⟨sb, so + j, none⟩ = some v) (hfit : o + cs.length ≤ cur.size) (h1 : ∀ v ∈ cs, v.oneCell' = true) :
    (Builtin.copy_ #[23, 23] ty #[.slice (some ⟨g, o, none⟩) dl dc, .slice (some ⟨sb, so, none⟩) sl sc]).run Try.prog w = .ok (goInt m) (w.setRow g (lay cur o cs)) := by
  have hf := run_firstCells_some (P := Try.prog) w 4 m ⟨sb, so, none⟩ sl sc cs hcs (fun j v hv => by rw [Addr.add_lit]; exact hsrc j v hv)
  have hst := run_storeCells_at Try.prog g o 35 cs 0 cur w hg (by simpa using hfit) h1
  simp only [Nat.add_zero] at hst
  subst hm
  have hz := wait_size w
  simp [Builtin.copy_, run_underlying wait_of, Builtin.lenOf, hz, hf, hst, lay]
/-- A copy: behind it the block is this; nothing else turns. -/
theorem wp_copy_w {o : Oper} {a : Act} {w : World} {K : Act → World → Prop} {Q : Exit → Act → World → Prop} (d s : Operand) (ho : o.op = .call { callee := .builtin .copy, args := #[d, s], argTypes := #[23, 23] })
    (g p dl dc sb so sl sc : Nat) (hd : a.eval d = .slice (some ⟨g, p, none⟩) dl dc) (hs : a.eval s = .slice (some ⟨sb, so, none⟩) sl sc) (cur : Array Value) (cs : List Value) (m : Nat) (hg : Blk w g 35 cur) (hm : Nat.min sl dl = m) (hcs : cs.length = m * 4) (hsrc : ∀ j v, cs[j]? = some v → w.cell? ⟨sb, so + j, none⟩ = some v) (hfit : p + cs.length ≤ cur.size) (h1 : ∀ v ∈ cs, v.oneCell' = true)
    (h : ∀ W, Blk W g 35 (lay cur p cs) → W.heap.size = w.heap.size → (∀ k, k ≠ g → W.heap[k]? = w.heap[k]?) → W.os = w.os ∧ W.tape = w.tape ∧ W.output = w.output → K (a.put o.dst (goInt m)) W) : o.wp Try.prog a w K Q := by
  have hrun := run_copy_w (ty := o.type) g p dl dc sb so sl sc cur cs m hg hm hcs hsrc hfit h1
  unfold Oper.wp
  simp [execOp, ho, resolve, invoke, builtin, hd, hs, hrun, Result.andThen]
  exact h _ (Blk.row hg _) (by simp) (fun k hk => setRow_other w g k _ hk) ⟨rfl, rfl, rfl⟩
theorem wpList_copy_w {ops : Array Oper} {rest : List Oper} {o : Oper} {a : Act} {w : World} {Q : Exit → Act → World → Prop} (hgd : o.guard = none) (d s : Operand) (ho : o.op = .call { callee := .builtin .copy, args := #[d, s], argTypes := #[23, 23] })
    (g p dl dc sb so sl sc : Nat) (hd : a.eval d = .slice (some ⟨g, p, none⟩) dl dc) (hs : a.eval s = .slice (some ⟨sb, so, none⟩) sl sc) (cur : Array Value) (cs : List Value) (m : Nat) (hg : Blk w g 35 cur) (hm : Nat.min sl dl = m) (hcs : cs.length = m * 4) (hsrc : ∀ j v, cs[j]? = some v → w.cell? ⟨sb, so + j, none⟩ = some v) (hfit : p + cs.length ≤ cur.size) (h1 : ∀ v ∈ cs, v.oneCell' = true)
    (h : ∀ W, Blk W g 35 (lay cur p cs) → W.heap.size = w.heap.size → (∀ k, k ≠ g → W.heap[k]? = w.heap[k]?) → W.os = w.os ∧ W.tape = w.tape ∧ W.output = w.output → wpList Try.prog ops Q rest (a.put o.dst (goInt m)) W) : wpList Try.prog ops Q (o :: rest) a w :=
  wpList_plain hgd fun K hK => wp_copy_w d s ho g p dl dc sb so sl sc hd hs cur cs m hg hm hcs hsrc hfit h1 fun W h1 h2 h3 h4 => hK _ _ (h W h1 h2 h3 h4)
theorem zeroCells4 (n : Nat) : (Builtin.zeroCells (Value.cells wzero) n).size = n * 4 := by
  simp [Builtin.zeroCells, Value.cells]
/-- append(s, make([]T, m)...) where there is no room: a new block, whose first cells are the old ones. -/
theorem run_append_zeros_grows {w : World} {ty : TypeId} (g n cap m : Nat) (xs : List Value) (hx : xs.length = n * 4) (hc : ∀ j v, xs[j]? = some v → w.cell? ⟨g, j, none⟩ = some v) (hm0 : 0 < m) (hroom : cap < n + m) (hle : n + m ≤ 65536) :
    ∃ g2 c2 W cur, (Builtin.append_ #[23, 3] ty #[.slice (some ⟨g, 0, none⟩) n cap, .int .i64 (m : Int)]).run Try.prog w = .ok (.slice (some ⟨g2, 0, none⟩) (n + m) c2) W ∧ Below w.heap.size w W ∧ w.heap.size ≤ g2 ∧ Blk W g2 35 cur ∧ cur.size = c2 * 4 ∧ n + m ≤ c2 ∧ c2 ≤ maxLen ∧ cur.toList.take (n * 4) = xs := by
  obtain ⟨i0, hi0, hz0, hz1, hz2⟩ := info_parts info_wait
  have hf := run_firstCells_some (P := Try.prog) w.drew 4 n ⟨g, 0, none⟩ n cap xs hx (fun j v hv => by rw [add0]; exact hc j v hv)
  have hwr : IntKind.i64.wrap (m : Int) = m := by rw [IntKind.wrap_i64]; omega
  have has : ∀ w' : World, (asInt (.int .i64 (m : Int))).run Try.prog w' = .ok (m : Int) w' := fun _ => rfl
  have hm1 : ¬ ((m : Int) < 0) := by omega
  have hmb : ¬ (281474976710656 < (m : Int) * 48) := by omega
  have hm4 : ¬ (m * 4 = 0) := by omega
  have hnr : ¬ (n + m ≤ cap) := by omega
  have hmz : m ≠ 0 := by omega
  have h63' : ¬ (9223372036854775807 < (n : Int) + (m : Int)) := by omega
  have h48' : ¬ (281474976710656 < Builtin.nextslicecap (n + m) cap * 48) := by have := growslice_fits (old := cap) (bytes := 48) (need := n + m) (by omega) (by omega); omega
  have hge := grownCap_ge w (n + m) cap 35
  have hcm : grownCap w (n + m) cap 35 ≤ maxLen := grownCap_le_maxLen w (n + m) cap 35 (by simp only [maxLen]; omega)
  refine ⟨w.heap.size, grownCap w (n + m) cap 35, w.drew.alloc (.cells (xs.toArray ++ Builtin.zeroCells (Value.cells wzero) m ++ Builtin.zeroCells (Value.cells wzero) (grownCap w (n + m) cap 35 - (n + m))) 35), _, ?_, (below_drewN (Below.refl _ _) 1).alloc (Nat.le_refl _) _, Nat.le_refl _, Blk.new _ _ _, ?_, hge, hcm, ?_⟩
  · have hzz := wait_zero
    simp [Builtin.append_, run_underlying wait_of, run_underlying Try.underlying3, sizeOf, typeInfo, zeroValue, hi0, hz0, hz1, hz2, has, hwr, hm1, hmb, hmz, hm4, hnr, h63', h48', Question.forced, hf, newRow, grownCap]
  · simp only [Array.size_append, List.size_toArray, hx, zeroCells4]
    omega
  · simp only [Array.toList_append, List.append_assoc]
    rw [← hx]
    exact List.take_left
end Go.Proofs.Ytiloammjejggjaa
