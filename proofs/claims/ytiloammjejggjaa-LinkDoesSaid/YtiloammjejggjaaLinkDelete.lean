/- slices.Delete of one message. -/
import Derived.Test.YtiloammjejggjaaLinkInsert
set_option linter.unusedSimpArgs false
set_option linter.unusedVariables false
namespace Go.Proofs.Ytiloammjejggjaa
open Go.RowKit

theorem slice_w_lhm (w : World) (A : Option Addr) (len cap i j m : Nat) (h1 : i ≤ j) (h2 : j ≤ m) (h3 : m ≤ cap) : ∃ R, ∀ w, (Instr.slice 23 (.slice A len cap) (some (.int .i64 (i : Int))) (some (.int .i64 (j : Int))) (some (.int .i64 (m : Int)))).run Try.prog w = .ok R w := by
  refine ⟨sliced A i j m 4, fun w => ?_⟩
  rw [run_slice_lhm w 23 A len cap wait_of' .i64 .i64 .i64 i j m (by omega) (by omega) (by omega) (by omega), wait_elem, wait_size]
  simp [Result.andThen]
theorem slice_w_lh (w : World) (g len cap i j : Nat) (h1 : i ≤ j) (h2 : j ≤ cap) (h3 : i < cap) : (Instr.slice 23 (.slice (some ⟨g, 0, none⟩) len cap) (some (.int .i64 (i : Int))) (some (.int .i64 (j : Int))) none).run Try.prog w = .ok (.slice (some ⟨g, i * 4, none⟩) (j - i) (cap - i)) w := by
  rw [run_slice_lh w 23 (some ⟨g, 0, none⟩) len cap wait_of' .i64 .i64 i j (by omega) (by omega) (by omega), wait_elem, wait_size]
  simp [Result.andThen, sliced, add0]
  omega
/-- append onto a piece of a row, where there is room: in place. -/
theorem run_append_room_w {w : World} {ty : TypeId} (g i c : Nat) (A2 : Option Addr) (m mc : Nat) (cur : Array Value) (cs : List Value) (hg : Blk w g 35 cur) (hcs : cs.length = m * 4) (hsrc : 0 < m → ∃ sb so, A2 = some ⟨sb, so, none⟩ ∧ ∀ j v, cs[j]? = some v → w.cell? ⟨sb, so + j, none⟩ = some v)
    (hroom : i + m ≤ c) (hcur : cur.size = c * 4) (h1 : ∀ v ∈ cs, v.oneCell' = true) :
    (Builtin.append_ #[23, 23] ty #[.slice (some ⟨g, 0, none⟩) i c, .slice A2 m mc]).run Try.prog w = .ok (.slice (some ⟨g, 0, none⟩) (i + m) c) (w.setRow g (lay cur (i * 4) cs)) := by
  have hst := run_storeCells_at Try.prog g (i * 4) 35 cs 0 cur w hg (by omega) h1
  simp only [Nat.add_zero] at hst
  have hz := wait_size w
  by_cases h0 : m = 0
  · subst h0
    have e : cs = [] := List.eq_nil_of_length_eq_zero (by omega)
    subst e
    have hfc : (Builtin.firstCells 4 0 (.slice A2 0 mc)).run Try.prog w = .ok #[] w := by
      cases A2 with
      | none => rfl
      | some a => exact run_firstCells_some (P := Try.prog) w 4 0 a 0 mc [] rfl (fun j v h => by simp at h)
    have hic : i ≤ c := by omega
    simp only [List.append_nil, List.length_nil, Nat.add_zero, List.take_append_drop, Array.toArray_toList] at hst
    simp [Builtin.append_, run_underlying wait_of, Builtin.lenOf, hz, hfc, hic, add0, hst, lay]
  · obtain ⟨sb, so, rfl, hsc⟩ := hsrc (by omega)
    have hf := run_firstCells_some (P := Try.prog) w 4 m ⟨sb, so, none⟩ m mc cs hcs (fun j v hv => by rw [Addr.add_lit]; exact hsc j v hv)
    simp [Builtin.append_, run_underlying wait_of, Builtin.lenOf, hz, hf, hroom, add0, hst, lay]
theorem run_clear_w {w : World} {ty : TypeId} (g i c : Nat) (cur : Array Value) (hg : Blk w g 35 cur) (hfit : i * 4 + 4 ≤ cur.size) :
    (Builtin.clear_ #[23] ty #[.slice (some ⟨g, i * 4, none⟩) 1 c]).run Try.prog w = .ok (.tuple #[]) (w.setRow g (lay cur (i * 4) (Value.cells wzero).toList)) := by
  have hzc : (Builtin.zeroCells (Value.cells wzero) 1).toList = (Value.cells wzero).toList := by kernel_rfl
  have hst := run_storeCells_at Try.prog g (i * 4) 35 (Value.cells wzero).toList 0 cur w hg (by simp [Value.cells]; omega) (by simp [Value.cells, Value.oneCell'])
  simp only [Nat.add_zero] at hst
  have hz := wait_zero w
  simp [Builtin.clear_, run_underlying wait_of, hz, hzc, hst, lay]
theorem step_append_room_w {ops : Array Oper} {o : Oper} {a : Act} {w : World} {K : Act → World → Prop} {Q : Exit → Act → World → Prop} {E : Prop} (hgd : o.guard = none) (s x : Operand) (ho : o.op = .call { callee := .builtin .append, args := #[s, x], argTypes := #[23, 23] })
    (g i c N : Nat) (A2 : Option Addr) (m mc : Nat) (hs : a.eval s = .slice (some ⟨g, 0, none⟩) i c) (hx : a.eval x = .slice A2 m mc) (cur : Array Value) (cs : List Value) (hN : i + m = N) (hg : Blk w g 35 cur) (hcs : cs.length = m * 4) (hsrc : 0 < m → ∃ sb so, A2 = some ⟨sb, so, none⟩ ∧ ∀ j v, cs[j]? = some v → w.cell? ⟨sb, so + j, none⟩ = some v)
    (hroom : i + m ≤ c) (hcur : cur.size = c * 4) (h1 : ∀ v ∈ cs, v.oneCell' = true)
    (h : ∀ W, Blk W g 35 (lay cur (i * 4) cs) → W.heap.size = w.heap.size → (∀ k, k ≠ g → W.heap[k]? = w.heap[k]?) → W.os = w.os ∧ W.tape = w.tape ∧ W.output = w.output → K (a.put o.dst (.slice (some ⟨g, 0, none⟩) N c)) W) : if Region.wanted o (yielded ops a.tmps) = true then Oper.wp Try.prog o a w K Q else E := by
  have hw : Region.wanted o (yielded ops a.tmps) = true := by simp [Region.wanted, hgd]
  rw [if_pos hw]
  subst hN
  have hrun := run_append_room_w (ty := o.type) g i c A2 m mc cur cs hg hcs hsrc hroom hcur h1
  unfold Oper.wp
  simp [execOp, ho, resolve, invoke, builtin, hs, hx, hrun, Result.andThen]
  exact h _ (Blk.row hg _) (by simp) (fun k hk => setRow_other w g k _ hk) ⟨rfl, rfl, rfl⟩
theorem wpList_clear_w {ops : Array Oper} {rest : List Oper} {o : Oper} {a : Act} {w : World} {Q : Exit → Act → World → Prop} (hgd : o.guard = none) (s : Operand) (ho : o.op = .call { callee := .builtin .clear, args := #[s], argTypes := #[23] })
    (g i c : Nat) (m : Nat) (hm : m = 1) (hs : a.eval s = .slice (some ⟨g, i * 4, none⟩) m c) (cur : Array Value) (hg : Blk w g 35 cur) (hfit : i * 4 + 4 ≤ cur.size)
    (h : ∀ W, Blk W g 35 (lay cur (i * 4) (Value.cells wzero).toList) → W.heap.size = w.heap.size → (∀ k, k ≠ g → W.heap[k]? = w.heap[k]?) → W.os = w.os ∧ W.tape = w.tape ∧ W.output = w.output → wpList Try.prog ops Q rest (a.put o.dst (.tuple #[])) W) : wpList Try.prog ops Q (o :: rest) a w := by
  subst hm
  refine wpList_plain hgd fun K hK => ?_
  have hrun := run_clear_w (ty := o.type) g i c cur hg hfit
  unfold Oper.wp
  simp [execOp, ho, resolve, invoke, builtin, hs, hrun, Result.andThen]
  exact hK _ _ (h _ (Blk.row hg _) (by simp) (fun k hk => setRow_other w g k _ hk) ⟨rfl, rfl, rfl⟩)
/-- Messages in a row of the call's own, their bodies anywhere. -/
structure OwnV (w : World) (base : Nat) (A : Option Addr) (c : Nat) (xs : List (Wt × Value)) : Prop where
  own : OwnW w base A c xs
  body : ∀ p ∈ xs, IsBytes p.1.body p.2 w
theorem OwnV.grow {w w' : World} {base c : Nat} {A : Option Addr} {xs : List (Wt × Value)} (h : OwnV w base A c xs) (hb : Below w.heap.size w w') : OwnV w' base A c xs := ⟨h.own.below hb, fun p hp => (h.body p hp).grow hb⟩
theorem OwnV.waits {w : World} {base c : Nat} {A : Option Addr} {xs : List (Wt × Value)} (h : OwnV w base A c xs) : WaitsAt w A xs := h.own.waits h.body
theorem OwnV.is {w : World} {base c : Nat} {A : Option Addr} {xs : List (Wt × Value)} (h : OwnV w base A c xs) {ws : List Wt} (hx : xs.map (·.1) = ws) {n : Nat} (hn : ws.length = n) : IsWaits ws (.slice A n c) w :=
  ⟨A, c, xs, by rw [hn], hx, h.waits, by rw [← hx, List.length_map]; exact h.own.cap.1, h.own.cap.2⟩
/-- A value that is a slice of these messages, in a row of the call's own at or above base. -/
def IsWaitsN (base : Nat) (ws : List Wt) : Value → World → Prop := fun v w => ∃ A c xs, v = .slice A ws.length c ∧ xs.map (·.1) = ws ∧ OwnV w base A c xs
theorem OwnV.mono {w : World} {base base' c : Nat} {A : Option Addr} {xs : List (Wt × Value)} (h : OwnV w base A c xs) (hb : base' ≤ base) : OwnV w base' A c xs := ⟨h.own.mono hb, h.body⟩
theorem OwnV.isN {w : World} {base base' c : Nat} {A : Option Addr} {xs : List (Wt × Value)} (h : OwnV w base A c xs) (hb : base' ≤ base) {ws : List Wt} (hx : xs.map (·.1) = ws) {n : Nat} (hn : ws.length = n) : IsWaitsN base' ws (.slice A n c) w :=
  ⟨A, c, xs, by rw [hn], hx, h.mono hb⟩
theorem IsWaitsN.is {base : Nat} {ws : List Wt} {v : Value} {w : World} (h : IsWaitsN base ws v w) : IsWaits ws v w := by
  obtain ⟨A, c, xs, rfl, hx, hV⟩ := h
  exact hV.is hx rfl
theorem IsWaitsN.grow {base : Nat} {ws : List Wt} {v : Value} {w w' : World} (h : IsWaitsN base ws v w) (hb : Below w.heap.size w w') : IsWaitsN base ws v w' := by
  obtain ⟨A, c, xs, e, hx, hV⟩ := h
  exact ⟨A, c, xs, e, hx, hV.grow hb⟩
theorem IsWaitsN.mono {base base' : Nat} {ws : List Wt} {v : Value} {w : World} (h : IsWaitsN base ws v w) (hb : base' ≤ base) : IsWaitsN base' ws v w := by
  obtain ⟨A, c, xs, e, hx, hV⟩ := h
  exact ⟨A, c, xs, e, hx, hV.mono hb⟩
theorem IsWaitsN.nil (w : World) (base : Nat) : IsWaitsN base [] (.slice none 0 0) w := ⟨none, 0, [], rfl, rfl, OwnW.nil _ _, fun p hp => absurd hp List.not_mem_nil⟩
/-- A value that is this link, its messages in a row of the call's own. -/
def IsLinkN (base : Nat) (l : Lk) : Value → World → Prop := fun v w => ∃ u, v = .agg #[.int .i64 l.period, .int .i64 l.most, .int .i64 l.quiet, .int .i64 l.heard, u] ∧ IsWaitsN base l.waits u w
theorem IsLinkN.is {base : Nat} {l : Lk} {v : Value} {w : World} (h : IsLinkN base l v w) : IsLink l v w := by
  obtain ⟨u, e, hu⟩ := h
  exact ⟨u, e, hu.is⟩
theorem OwnWs.v {w : World} {base c : Nat} {A : Option Addr} {xs : List (Wt × Value)} (h : OwnWs w base A c xs) : OwnV w base A c xs := ⟨h.own, fun p hp => (h.body p hp).is⟩
theorem OwnV.far {w w' : World} {base c : Nat} {A : Option Addr} {xs : List (Wt × Value)} (h : OwnV w base A c xs) {g : Nat} {t : TypeId} {cs : Array Value} (hg : Blk w g t cs) (hn : cs.all (fun v => !is8 v) = true) (hlt : g < base) (hz : w'.heap.size = w.heap.size) (hk : ∀ k, k ≠ g → w'.heap[k]? = w.heap[k]?) : OwnV w' base A c xs := by
  refine ⟨⟨h.own.1, ?_⟩, fun p hp => ?_⟩
  · rcases h.own.2 with h' | ⟨k, cap, cur, e, h1, h2, h3⟩
    · exact .inl h'
    · exact .inr ⟨k, cap, cur, e, h1, (hk k (by omega)).trans h2, h3⟩
  · obtain ⟨Ab, cb, e, hB⟩ := h.body p hp
    exact ⟨Ab, cb, e, hB.apart hg hn hz hk⟩
theorem IsWaitsN.far {w w' : World} {base : Nat} {ws : List Wt} {v : Value} (h : IsWaitsN base ws v w) {g : Nat} {t : TypeId} {cs : Array Value} (hg : Blk w g t cs) (hn : cs.all (fun v => !is8 v) = true) (hlt : g < base) (hz : w'.heap.size = w.heap.size) (hk : ∀ k, k ≠ g → w'.heap[k]? = w.heap[k]?) : IsWaitsN base ws v w' := by
  obtain ⟨A, c, xs, e, hx, hV⟩ := h
  exact ⟨A, c, xs, e, hx, hV.far hg hn hlt hz hk⟩
set_option maxHeartbeats 4000000 in
theorem wdelete_k (n i c base : Nat) (xs : List (Wt × Value)) (w : World) (A : Option Addr) (hn : xs.length = n) (ho : OwnW w base A c xs) (hi : i < n) (hlen : n ≤ 8) (h1 : ∀ q ∈ xs, q.2.oneCell' = true) :
    Calls Try.prog 29 #[.slice A n c, .int .i64 (i : Int), .int .i64 ((i : Int) + 1)] w (Edited (xs.take i ++ xs.drop (i + 1)) base (rowOf A) w) := by
  obtain ⟨g, cur, rfl, hgb, hg, hcs, htk⟩ := ho.blk (by omega)
  have hm := ho.cap.2
  have hcn := ho.cap.1
  rw [hn] at hcn htk
  obtain ⟨R, hs0⟩ := slice_w_lhm w (some ⟨g, 0, none⟩) n c i (i + 1) n (by omega) (by omega) hcn
  have hs1 := fun W => slice_w_h W g n c i (by omega)
  have hs2 := fun W => slice_w_any W (some ⟨g, 0, none⟩) n c (i + 1) (by omega)
  have hs3 := fun W => slice_w_lh W g (n - 1) c (n - 1) n (by omega) (by omega) (by omega)
  simp only [Int.natCast_add, Int.natCast_one] at hs0 hs2
  have hne1 : ((i : Int) == (i : Int) + 1) = false := by simp; omega
  have hne2 : ¬ ((i : Int) = (i : Int) + 1) := by omega
  have hcsrc : ∀ j v, (flat (xs.drop (i + 1)))[j]? = some v → w.cell? ⟨g, (i + 1) * 4 + j, none⟩ = some v := fun j v hj => by
    rw [← flat_drop, ← htk, List.drop_take, List.getElem?_take] at hj
    split at hj
    · rw [List.getElem?_drop] at hj
      rw [hg.cell]
      simpa using hj
    · cases hj
  have hcl : (flat (xs.drop (i + 1))).length = (n - (i + 1)) * 4 := by rw [flat_length, List.length_drop, hn]
  have hone := flat_one (xs.drop (i + 1)) fun q hq => h1 q (List.mem_of_mem_drop hq)
  have hA2 : 0 < n - (i + 1) → ∃ sb so, cutW (some ⟨g, 0, none⟩) (i + 1) c = some ⟨sb, so, none⟩ ∧ ∀ j v, (flat (xs.drop (i + 1)))[j]? = some v → w.cell? ⟨sb, so + j, none⟩ = some v := fun h => ⟨g, (i + 1) * 4, by unfold cutW; rw [if_neg (by omega)]; simp [add0], hcsrc⟩
  generalize cutW (some ⟨g, 0, none⟩) (i + 1) c = A2 at *
  have HN := Lib.hid hn
  have HT := Lib.hid htk
  have HC := Lib.hid hcs
  have HCL := Lib.hid hcl
  have HS := Lib.hid hA2
  clear hn htk hcs hcl hcsrc h1 hA2
  go_enter Try.func29, Try.ntmps29
  go_wp2_with fail
  clear hs0
  go_region_law (refine step_append_room_w rfl (.tmp 22) (.tmp 25) rfl g i c (n - 1) A2 (n - (i + 1)) (c - (i + 1)) (by simp [Act.eval, Act.put]) (by simp [Act.eval, Act.put]) cur (flat (xs.drop (i + 1))) (by omega) hg HCL.out HS.out (by omega) HC.out hone ?_; intro W1 hg1 hz1 hk1 hx1)
  clear hs1 hs2
  go_wp2_with (refine wpList_clear_w rfl (.tmp 31) rfl g (n - 1) (c - (n - 1)) (n - (n - 1)) (by omega) rfl _ hg1 (by have := HC.out; have := HCL.out; rw [lay_size _ _ _ (by omega)]; omega) ?_; intro W2 hg2 hz2 hk2 hx2)
  go_ret
  have hl1 := HCL.out
  have hl2 := HC.out
  have hn := HN.out
  have htk := HT.out
  have hlen' : (xs.take i ++ xs.drop (i + 1)).length = n - 1 := by simp; omega
  have hs1' : (lay cur (i * 4) (flat (xs.drop (i + 1)))).size = c * 4 := by rw [lay_size _ _ _ (by omega), hl2]
  have h4 : (Value.cells wzero).toList.length = 4 := rfl
  have hall : ∀ k, k ≠ g → W2.heap[k]? = w.heap[k]? := fun k hk => (hk2 k hk).trans (hk1 k hk)
  have hbl : Below g w W2 := ⟨by rw [hx2.1, hx1.1]; rfl, by rw [hx2.2.1, hx1.2.1]; rfl, by rw [hx2.2.2, hx1.2.2]; rfl, by rw [hz2, hz1]; exact Nat.le_refl _, fun k hk => hall k (by omega)⟩
  have e1 : (n - 1) * 4 = i * 4 + (flat (xs.drop (i + 1))).length := by rw [hl1]; omega
  refine ⟨some ⟨g, 0, none⟩, c, by rw [hlen']; rfl, OwnW.of_blk hg2 hgb (by rw [lay_size _ _ _ (by omega), hs1']) hlen' (by omega) hm ?_, ⟨hbl.os, hbl.tape, hbl.output, hbl.size, fun k _ hk => hall k (fun e => hk (by rw [e]; rfl))⟩, hbl.mono hgb⟩
  rw [lay_ahead _ _ _ _ (Nat.le_refl _) (by omega), e1, lay_take _ _ _ (by omega), flat_append, ← flat_take, ← htk, List.take_take, Nat.min_eq_left (by omega)]
end Go.Proofs.Ytiloammjejggjaa
