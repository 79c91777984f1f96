/- slices.Insert of one message. -/
import Derived.Test.YtiloammjejggjaaLinkCells
import Derived.OwnWalkIn
import Derived.Deep.RegionLaw
set_option linter.unusedSimpArgs false
set_option linter.unusedVariables false
namespace Go.Proofs.Ytiloammjejggjaa
open Go.RowKit

def cutW (A : Option Addr) (i c : Nat) : Option Addr := if c = i then A else A.map (·.add (i * 4))
theorem slice_w_any (w : World) (A : Option Addr) (len cap i : Nat) (h1 : i ≤ len) : (Instr.slice 23 (.slice A len cap) (some (.int .i64 (i : Int))) none none).run Try.prog w = .ok (.slice (cutW A i cap) (len - i) (cap - i)) w := by
  rw [run_slice_l w 23 A len cap wait_of' .i64 i (by omega) (by omega), wait_elem, wait_size]
  simp [Result.andThen, sliced, cutW]
theorem Bytes.grownOff {w w' : World} {A : Option Addr} {c : Nat} {bs : List UInt8} {R : Option Nat} (h : Bytes w A c bs) (hR : R.isSome = true → rowOf A ≠ R) (hg : w.grownBy w' R) : Bytes w' A c bs := by
  refine ⟨fun h0 => ?_, h.cap, h.max⟩
  obtain ⟨b, off, rfl, hlt, hc⟩ := h.row h0
  refine ⟨b, off, rfl, Nat.lt_of_lt_of_le hlt hg.size, fun j u hu => (World.cell?_of_block (hg.block b hlt fun e => ?_)).trans (hc j u hu)⟩
  subst e
  exact hR rfl rfl
theorem IsBytesO.grown {R : Option Nat} {bs : List UInt8} {v : Value} {w w' : World} (h : IsBytesO R bs v w) (hg : w.grownBy w' R) : IsBytes bs v w' := by
  obtain ⟨A, c, e, hB, hn⟩ := h
  exact ⟨A, c, e, hB.grownOff hn hg⟩
/-- A list of messages that the library has edited. -/
theorem wcell_one (p : Wt × Value) (hp : p.2.oneCell' = true) : ∀ v ∈ wcell p, v.oneCell' = true := by
  intro u hu
  simp only [wcell, List.mem_cons, List.not_mem_nil, or_false] at hu
  rcases hu with rfl | rfl | rfl | rfl
  · rfl
  · rfl
  · rfl
  · exact hp
theorem lay2_take (cur : Array Value) (o : Nat) (cs1 cs2 : List Value) (h : o + cs1.length + cs2.length ≤ cur.size) :
    (lay (lay cur (o + cs1.length) cs2) o cs1).toList.take (o + cs1.length + cs2.length) = cur.toList.take o ++ cs1 ++ cs2 := by
  obtain ⟨R, hR⟩ : ∃ R, R = cur.toList.drop (o + cs1.length + cs2.length) := ⟨_, rfl⟩
  unfold lay
  rw [← hR]
  show ((cur.toList.take (o + cs1.length) ++ cs2 ++ R).take o ++ cs1 ++ (cur.toList.take (o + cs1.length) ++ cs2 ++ R).drop (o + cs1.length)).take _ = _
  have e1 : (cur.toList.take (o + cs1.length) ++ cs2 ++ R).drop (o + cs1.length) = cs2 ++ R := by
    rw [List.append_assoc]
    exact List.drop_left' (by simp; omega)
  have e0 : (cur.toList.take (o + cs1.length) ++ cs2 ++ R).take o = cur.toList.take o := by
    rw [List.append_assoc, List.take_append_of_le_length (by simp; omega), List.take_take, Nat.min_eq_left (by omega)]
  rw [e1, e0, ← List.append_assoc]
  exact List.take_left' (by simp; omega)
def Edited (zs : List (Wt × Value)) (base : Nat) (R : Option Nat) (w : World) (e : Ending) (w' : World) : Prop := ∃ A2 c2, e = .returned (.slice A2 zs.length c2) ∧ OwnW w' base A2 c2 zs ∧ w.grownBy w' R ∧ Below base w w'
theorem grown_of_below {w w' : World} (h : Below w.heap.size w w') (R : Option Nat) : w.grownBy w' R := ⟨h.os, h.tape, h.output, h.size, fun k hk _ => h.block k hk⟩
section
variable (n i c bv base : Nat) (xs : List (Wt × Value)) (p : Wt × Value) (w : World)
theorem winsert_end (A : Option Addr) (hn : xs.length = n) (ho : OwnW w base A c xs) (hb : base ≤ w.heap.size) (hlen : n ≤ 8) (hv : Blk w bv 35 #[.int .i64 p.1.t, .int .i64 p.1.due, .int .i64 p.1.tries, p.2]) (hp : p.2.oneCell' = true) :
    Calls Try.prog 33 #[.slice A n c, .int .i64 (n : Int), .slice (some ⟨bv, 0, none⟩) 1 1] w (Edited (xs ++ [p]) base (rowOf A) w) := by
  have hs := fun W => slice_w_any W A n c n (Nat.le_refl _)
  have hr : Row w (some ⟨bv, 0, none⟩) (flat [p]) := Row.block hv
  have HN := Lib.hid hn
  have HP := Lib.hid hp
  clear hn hp
  generalize cutW A n c = A0 at hs
  go_enter Try.func33, Try.ntmps33
  go_wp2_with (at_builtin; refine wpList_app_waits rfl _ _ rfl base A c xs n rfl HN.out.symm ho (some ⟨bv, 0, none⟩) 1 [p] 1 rfl rfl hr (by simpa using HP.out) (by have := HN.out; simp; omega) hb ?_; intro A2 c2 W2 ho2 hgr2 hb2)
  go_ret
  exact ⟨A2, c2, by rw [List.length_append, HN.out]; rfl, ho2, hgr2, hb2⟩
theorem step_copy_w {ops : Array Oper} {o : Oper} {a : Act} {w : World} {K : Act → World → Prop} {Q : Exit → Act → World → Prop} {E : Prop} (hgd : o.guard = none) (d s : Operand) (ho : o.op = .call { callee := .builtin .copy, args := #[d, s], argTypes := #[23, 23] })
    (g p dl dc sb so sl sc : Nat) (hd : a.eval d = .slice (some ⟨g, p, none⟩) dl dc) (hs : a.eval s = .slice (some ⟨sb, so, none⟩) sl sc) (cur : Array Value) (cs : List Value) (m : Nat) (hg : Blk w g 35 cur) (hm : Nat.min sl dl = m) (hcs : cs.length = m * 4) (hsrc : ∀ j v, cs[j]? = some v → w.cell? ⟨sb, so + j, none⟩ = some v) (hfit : p + cs.length ≤ cur.size) (h1 : ∀ v ∈ cs, v.oneCell' = true)
    (h : ∀ W, Blk W g 35 (lay cur p cs) → W.heap.size = w.heap.size → (∀ k, k ≠ g → W.heap[k]? = w.heap[k]?) → W.os = w.os ∧ W.tape = w.tape ∧ W.output = w.output → K (a.put o.dst (goInt m)) W) : if Region.wanted o (yielded ops a.tmps) = true then Oper.wp Try.prog o a w K Q else E := by
  have hw : Region.wanted o (yielded ops a.tmps) = true := by simp [Region.wanted, hgd]
  rw [if_pos hw]
  exact wp_copy_w d s ho g p dl dc sb so sl sc hd hs cur cs m hg hm hcs hsrc hfit h1 h
theorem overlaps_w (g o la ca lb cb : Nat) (cur : Array Value) (w : World) (hne : bv ≠ g) (hv : Blk w bv 35 #[.int .i64 p.1.t, .int .i64 p.1.due, .int .i64 p.1.tries, p.2]) (hg : Blk w g 35 cur) (h0 : 0 < cur.size) :
    (callFunc 42 #[.slice (some ⟨bv, 0, none⟩) la ca, .slice (some ⟨g, o, none⟩) lb cb]).run Try.prog w = .ok (.value (.bool false)) w := by
  obtain ⟨k, hk⟩ : ∃ k, cur.size = k := ⟨_, rfl⟩
  rw [run_callFunc_extern Try.func42 (by kernel_rfl) (by kernel_rfl) (by kernel_rfl) (e := Extern.SlicesOverlaps.overlaps #[23, 23] #[4]) (by kernel_rfl),
    Lib.run_overlaps_apart w 23 4 35 wait_of 4 wait_size ⟨bv, 0, none⟩ ⟨g, o, none⟩ la ca lb cb hne 35 35 4 k (by unfold Blk at hv; simp [World.shape?, hv]) (by unfold Blk at hg; simp [World.shape?, hg, hk]) (by omega) (hv.frozen 0) (hv.frozen 4)]
  rfl
set_option maxHeartbeats 4000000 in
theorem winsert_room (g : Nat) (hn : xs.length = n) (ho : OwnW w base (some ⟨g, 0, none⟩) c xs) (hb : base ≤ w.heap.size) (hi : i < n) (hroom : n + 1 ≤ c) (hlen : n ≤ 8) (hv : Blk w bv 35 #[.int .i64 p.1.t, .int .i64 p.1.due, .int .i64 p.1.tries, p.2]) (hne : bv ≠ g) (hp : p.2.oneCell' = true) (h1 : ∀ q ∈ xs, q.2.oneCell' = true) :
    Calls Try.prog 33 #[.slice (some ⟨g, 0, none⟩) n c, .int .i64 (i : Int), .slice (some ⟨bv, 0, none⟩) 1 1] w (Edited (xs.take i ++ p :: xs.drop i) base (some g) w) := by
  obtain ⟨g', cur, e, hgb, hg, hcs, htk⟩ := ho.blk (by omega)
  obtain rfl : g = g' := by simpa using e
  have hm := ho.cap.2
  have hs1 := fun W => slice_w_l W g n c i (by omega) (by omega)
  have hs2 := fun W => slice_w_h W g n c (n + 1) (by omega)
  have hs3 := fun W => slice_w_l W g (n + 1) c (i + 1) (by omega) (by omega)
  have hs4 := fun W => slice_w_l W g (n + 1) c i (by omega) (by omega)
  simp only [Int.natCast_add, Int.natCast_one] at hs2 hs3
  have hov := fun o la ca lb cb => overlaps_w bv p g o la ca lb cb cur w hne hv hg (by omega)
  have hne1 : ((i : Int) == (n : Int)) = false := by simp; omega
  have hne2 : ¬ ((i : Int) = (n : Int)) := by omega
  have hd1 : decide ((c : Int) < (n : Int) + 1) = false := by simp; omega
  have hcsrc : ∀ j v, (flat (xs.drop i))[j]? = some v → w.cell? ⟨g, i * 4 + j, none⟩ = some v := fun j v hj => by
    rw [← flat_drop, ← htk, hn, List.drop_take, List.getElem?_take] at hj
    split at hj
    · rw [List.getElem?_drop] at hj
      rw [hg.cell]
      simpa using hj
    · cases hj
  have hcl : (flat (xs.drop i)).length = (n - i) * 4 := by rw [flat_length, List.length_drop, hn]
  have hone := flat_one (xs.drop i) fun q hq => h1 q (List.mem_of_mem_drop hq)
  have HN := Lib.hid hn
  have HT := Lib.hid htk
  have HC := Lib.hid hcs
  have HCL := Lib.hid hcl
  have HS := Lib.hid hcsrc
  clear hn htk hcs hcl hcsrc h1
  go_enter Try.func33, Try.ntmps33
  go_wp2_with (simp only [hov])
  clear hs2 hov
  have hw1 : IntKind.i64.wrap ((i : Int) + 1) = (i : Int) + 1 := by rw [IntKind.wrap_i64]; omega
  go_region_law (refine step_copy_w rfl (.tmp 73) (.tmp 76) rfl g ((i + 1) * 4) (n + 1 - (i + 1)) (c - (i + 1)) g (i * 4) (n + 1 - i) (c - i) (by simp [Act.eval, Act.put]) (by simp [Act.eval, Act.put]) cur (flat (xs.drop i)) (n - i) hg (by simp only [Nat.min_def]; split <;> omega) HCL.out HS.out (by have := HCL.out; have := HC.out; omega) hone ?_; intro W1 hg1 hz1 hk1 hx1)
  clear hs1 hs3 hw1
  have hv1 : Blk W1 bv 35 #[.int .i64 p.1.t, .int .i64 p.1.due, .int .i64 p.1.tries, p.2] := (hk1 bv hne).trans hv
  go_wp2_with (refine wpList_copy_w rfl (.tmp 80) (.tmp 81) rfl g (i * 4) (n + 1 - i) (c - i) bv 0 1 1 rfl rfl _ (wcell p) 1 hg1 (by simp only [Nat.min_def]; split <;> omega) rfl (fun j v hj => by rw [Nat.zero_add, hv1.cell]; simpa [wcell] using hj) (by rw [lay_size _ _ _ (by have := HCL.out; have := HC.out; omega)]; have := HC.out; simp only [wcell, List.length_cons, List.length_nil]; omega) (wcell_one p hp) ?_; intro W2 hg2 hz2 hk2 hx2)
  go_ret
  have hl1 := HCL.out
  have hl2 := HC.out
  have hn := HN.out
  have htk := HT.out
  rw [hn] at htk
  have hz : i * 4 + (wcell p).length = (i + 1) * 4 := by simp only [wcell, List.length_cons, List.length_nil]; omega
  have hs1' : (lay cur ((i + 1) * 4) (flat (xs.drop i))).size = c * 4 := by rw [lay_size _ _ _ (by omega), hl2]
  have hlen' : (xs.take i ++ p :: xs.drop i).length = n + 1 := by simp; omega
  have hall : ∀ k, k ≠ g → W2.heap[k]? = w.heap[k]? := fun k hk => (hk2 k hk).trans (hk1 k hk)
  have hbl : Below g w W2 := ⟨by rw [hx2.1, hx1.1]; rfl, by rw [hx2.2.1, hx1.2.1]; rfl, by rw [hx2.2.2, hx1.2.2]; rfl, by rw [hz2, hz1]; exact Nat.le_refl _, fun k hk => hall k (by omega)⟩
  have e1 : (n + 1) * 4 = i * 4 + (wcell p).length + (flat (xs.drop i)).length := by rw [hl1]; omega
  have e3 : (i + 1) * 4 = i * 4 + (wcell p).length := hz.symm
  refine ⟨some ⟨g, 0, none⟩, c, by rw [hlen']; rfl, OwnW.of_blk hg2 hgb (by rw [lay_size _ _ _ (by omega), hs1']) hlen' hroom hm ?_, ⟨hbl.os, hbl.tape, hbl.output, hbl.size, fun k _ hk => hall k (fun e => hk (by rw [e]))⟩, hbl.mono hgb⟩
  rw [e1, e3, lay2_take _ _ _ _ (by omega), flat_append, flat_cons, ← flat_take, ← htk, List.take_take, Nat.min_eq_left (by omega), List.append_assoc]
theorem wpList_app_wzeros {ops : Array Oper} {rest : List Oper} {o : Oper} {a : Act} {w : World} {Q : Exit → Act → World → Prop} (hgd : o.guard = none) (s x : Operand) (ho : o.op = .call { callee := .builtin .append, args := #[s, x], argTypes := #[23, 3] })
    (g n cap m N : Nat) (zs : List Value) (hs : a.eval s = .slice (some ⟨g, 0, none⟩) n cap) (mi : Int) (hx : a.eval x = .int .i64 mi) (hmi : mi = (m : Int)) (hN : n + m = N) (hz : zs.length = n * 4) (hc : ∀ j v, zs[j]? = some v → w.cell? ⟨g, j, none⟩ = some v) (hm0 : 0 < m) (hroom : cap < n + m) (hle : n + m ≤ 65536)
    (h : ∀ g2 c2 W cur, Below w.heap.size w W → w.heap.size ≤ g2 → Blk W g2 35 cur → cur.size = c2 * 4 → N ≤ c2 → c2 ≤ maxLen → cur.toList.take (n * 4) = zs → wpList Try.prog ops Q rest (a.put o.dst (.slice (some ⟨g2, 0, none⟩) N c2)) W) : wpList Try.prog ops Q (o :: rest) a w := by
  subst hmi
  subst hN
  obtain ⟨g2, c2, W, cur, hr, h1, h2, h3, h4, h5, h6, h7⟩ := run_append_zeros_grows (ty := o.type) g n cap m zs hz hc hm0 hroom hle
  refine wpList_plain hgd fun K hK => ?_
  unfold Oper.wp execOp
  simp only [ho, resolve, invoke, builtin, Sem.run_bind, Sem.run_pure, Result.andThen_ok, List.map_toArray, List.map_cons, List.map_nil, hs, hx, hr]
  exact hK _ _ (h g2 c2 W cur h1 h2 h3 h4 h5 h6 h7)
theorem lay2_take' (cur : Array Value) (o : Nat) (cs1 cs2 : List Value) (h : o + cs1.length + cs2.length ≤ cur.size) :
    (lay (lay cur o cs1) (o + cs1.length) cs2).toList.take (o + cs1.length + cs2.length) = cur.toList.take o ++ cs1 ++ cs2 := by
  rw [lay_take _ _ _ (by rw [lay_size _ _ _ (by omega)]; omega), lay_take _ _ _ (by omega)]
set_option maxHeartbeats 4000000 in
theorem winsert_grow (g : Nat) (hn : xs.length = n) (ho : OwnW w base (some ⟨g, 0, none⟩) c xs) (hb : base ≤ w.heap.size) (hi : i < n) (hroom : c < n + 1) (hlen : n ≤ 8) (hv : Blk w bv 35 #[.int .i64 p.1.t, .int .i64 p.1.due, .int .i64 p.1.tries, p.2]) (hp : p.2.oneCell' = true) (h1 : ∀ q ∈ xs, q.2.oneCell' = true) :
    Calls Try.prog 33 #[.slice (some ⟨g, 0, none⟩) n c, .int .i64 (i : Int), .slice (some ⟨bv, 0, none⟩) 1 1] w (Edited (xs.take i ++ p :: xs.drop i) base (some g) w) := by
  have hm := ho.cap.2
  have hcn := ho.cap.1
  obtain rfl : c = n := by omega
  obtain ⟨g', cur0, e, hgb, hg, hcs, htk⟩ := ho.blk (by omega)
  obtain rfl : g = g' := by simpa using e
  have hs1 := fun W => slice_w_l W g c c i (by omega) (by omega)
  have hs2 := fun W => slice_w_h W g c c i (by omega)
  have hne1 : ((i : Int) == (c : Int)) = false := by simp; omega
  have hne2 : ¬ ((i : Int) = (c : Int)) := by omega
  have hd1 : decide ((c : Int) < (c : Int) + 1) = true := by simp; omega
  have hall : ∀ W, Below w.heap.size w W → ∀ j v, (flat xs)[j]? = some v → W.cell? ⟨g, j, none⟩ = some v := fun W hb j v hj => by
    rw [(hg.below hb hg.lt).cell]
    rw [← htk, List.getElem?_take] at hj
    split at hj
    · simpa using hj
    · cases hj
  have hcl : (flat (xs.drop i)).length = (c - i) * 4 := by rw [flat_length, List.length_drop, hn]
  have htl : (flat (xs.take i)).length = i * 4 := by rw [flat_length, List.length_take, hn, Nat.min_eq_left (by omega)]
  have hone := flat_one (xs.drop i) fun q hq => h1 q (List.mem_of_mem_drop hq)
  have hgl := hg.lt
  have HN := Lib.hid hn
  have HCL := Lib.hid hcl
  have HTL := Lib.hid htl
  have HS := Lib.hid hall
  clear hn htk hcs hcl hall h1 htl
  go_enter Try.func33, Try.ntmps33
  go_wp2_with (first
    | (at_builtin; refine wpList_app_wzeros rfl (.tmp 34) (.tmp 39) rfl g i c (c + 1 - i) (c + 1) (flat (xs.take i)) rfl _ rfl (by omega) (by omega) HTL.out (fun j v hj => HS.out _ (Below.refl _ _) j v (by rw [← flat_take, List.getElem?_take] at hj; split at hj; exact hj; cases hj)) (by omega) (by omega) (by omega) ?_; intro g2 c2 W1 cur hb1 hg2 hB1 hs1z hc2 hc2m ht1; have HS1 := Lib.hid hs1z; have HT1 := Lib.hid ht1; clear hs1z ht1; have hq1 := fun W => slice_w_l W g2 (c + 1) c2 i (by omega) (by omega); have hq2 := fun W => slice_w_l W g2 (c + 1) c2 (i + 1) (by omega) (by omega); simp only [Int.natCast_add, Int.natCast_one] at hq2)
    | (refine wpList_copy_w rfl (.tmp 43) (.tmp 44) rfl g2 (i * 4) (c + 1 - i) (c2 - i) bv 0 1 1 rfl rfl cur (wcell p) 1 hB1 (by simp only [Nat.min_def]; split <;> omega) rfl (fun j v hj => by rw [Nat.zero_add, (hv.below hb1 hv.lt).cell]; simpa [wcell] using hj) (by have := HS1.out; simp only [wcell, List.length_cons, List.length_nil]; omega) (wcell_one p hp) ?_; intro W2 hB2 hz2 hk2 hx2))
  have hw1 : IntKind.i64.wrap ((i : Int) + 1) = (i : Int) + 1 := by rw [IntKind.wrap_i64]; omega
  have hb2 : Below w.heap.size w W2 := hb1.trans ⟨hx2.1, hx2.2.1, hx2.2.2, by omega, fun k hk => hk2 k (by omega)⟩
  clear hs2 hq1
  go_region_law (refine step_copy_w rfl (.tmp 50) (.tmp 53) rfl g2 ((i + 1) * 4) (c + 1 - (i + 1)) (c2 - (i + 1)) g (i * 4) (c - i) (c - i) (by simp [Act.eval, Act.put]) (by simp [Act.eval, Act.put]) (lay cur (i * 4) (wcell p)) (flat (xs.drop i)) (c - i) hB2 (by simp only [Nat.min_def]; split <;> omega) HCL.out (fun j v hj => HS.out W2 hb2 _ v (by rw [← flat_drop, List.getElem?_drop] at hj; exact hj)) (by rw [lay_size _ _ _ (by have := HS1.out; simp only [wcell, List.length_cons, List.length_nil]; omega)]; have := HCL.out; have := HS1.out; omega) hone ?_; intro W3 hB3 hz3 hk3 hx3)
  clear hs1 hw1 hq2
  go_wp2_with fail
  go_ret
  have hl1 := HCL.out
  have hl2 := HS1.out
  have hn := HN.out
  have hw4 : (wcell p).length = 4 := rfl
  have hlen' : (xs.take i ++ p :: xs.drop i).length = c + 1 := by simp; omega
  have hsz1 : (lay cur (i * 4) (wcell p)).size = c2 * 4 := by rw [lay_size _ _ _ (by omega), hl2]
  have hb3 : Below w.heap.size w W3 := hb2.trans ⟨hx3.1, hx3.2.1, hx3.2.2, by rw [hz3]; exact Nat.le_refl _, fun k hk => hk3 k (by omega)⟩
  have e1 : (c + 1) * 4 = i * 4 + (wcell p).length + (flat (xs.drop i)).length := by rw [hl1]; omega
  have e3 : (i + 1) * 4 = i * 4 + (wcell p).length := by omega
  refine ⟨some ⟨g2, 0, none⟩, c2, by rw [hlen']; rfl, OwnW.of_blk hB3 (by omega) (by rw [lay_size _ _ _ (by omega), hsz1]) hlen' hc2 hc2m ?_, grown_of_below hb3 _, hb3.mono hb⟩
  rw [e1, e3, lay2_take' _ _ _ _ (by omega), flat_append, flat_cons, ← HT1.out, List.append_assoc]
theorem winsert_k (A : Option Addr) (hn : xs.length = n) (ho : OwnW w base A c xs) (hb : base ≤ w.heap.size) (hi : i ≤ n) (hlen : n ≤ 8) (hv : Blk w bv 35 #[.int .i64 p.1.t, .int .i64 p.1.due, .int .i64 p.1.tries, p.2]) (hne : rowOf A ≠ some bv) (hp : p.2.oneCell' = true) (h1 : ∀ q ∈ xs, q.2.oneCell' = true) :
    Calls Try.prog 33 #[.slice A n c, .int .i64 (i : Int), .slice (some ⟨bv, 0, none⟩) 1 1] w (Edited (xs.take i ++ p :: xs.drop i) base (rowOf A) w) := by
  rcases Nat.eq_or_lt_of_le hi with rfl | hlt
  · have := winsert_end i c bv base xs p w A hn ho hb hlen hv hp
    rwa [← hn, List.take_length, List.drop_length, hn]
  · obtain ⟨g, cur, rfl, _⟩ := ho.blk (by omega)
    have hne' : bv ≠ g := fun e => hne (by rw [e]; rfl)
    by_cases hr : n + 1 ≤ c
    · exact winsert_room n i c bv base xs p w g hn ho hb hlt hr hlen hv hne' hp h1
    · exact winsert_grow n i c bv base xs p w g hn ho hb hlt (by omega) hlen hv hp h1
end
end Go.Proofs.Ytiloammjejggjaa
