/- Texts in one: Mac BytesOwn BytesStr BytesNew. -/
import Derived.RangeFuncNested
import Derived.RangeFuncBound
import Derived.RangeFuncCalls
import Derived.RangeFuncLeaves
import Derived.RangeFuncFrom
import Derived.Shelf.Abstract
import Derived.Shelf.RegionOpen
import Derived.OwnWalkIn
import Derived.TacticsInMore
import Derived.LoopNIn
import Derived.LoopIn
import Derived.Test.YtpjdcpicfkdioaaGreatDoorK28
import Derived.Test.YtpjdcpicfkdioaaGreatDoorK01
import Derived.Test.YtpjdcpicfkdioaaGreatDoorChecked
import Derived.Laws.BytesArg
import Derived.Laws.IdiomStrings
import Derived.Laws.Strings
import Derived.Lib.Hide
import Derived.WalkSpells
set_option linter.unusedSimpArgs false
set_option linter.unusedVariables false
/- The seal's walks: the blocks handed on by an iterator, the chain over them, the key that is made. -/
namespace Go.Proofs.YtpjdcpicfkdioaaGreatDoor
open Go.RowKit Go.Shelf
attribute [local go_sem] Oper.semAt_some

theorem all_ones (a : BitVec 64) : BitVec.ofInt 64 18446744073709551615 ^^^ a = ~~~ a := by
  have : BitVec.ofInt 64 18446744073709551615 = BitVec.allOnes 64 := by decide
  rw [this, BitVec.allOnes_xor]
@[go_sem] theorem unary_xor_q64 (a : BitVec 64) : Op.unary .xor (q64 a) = pure (q64 (~~~ a)) := by
  have h : Op.unary .xor (q64 a) = binOp .xor 0 (q64 (BitVec.ofInt 64 18446744073709551615)) (q64 a) := rfl
  rw [h, q64_xor, all_ones]

theorem q64_len (n : Nat) (h : n < 18446744073709551616) : Value.int .u64 (n : Int) = q64 (BitVec.ofNat 64 n) := by
  unfold q64
  rw [BitVec.toNat_ofNat, Nat.mod_eq_of_lt h]
set_option maxHeartbeats 1000000 in
theorem derive_k (k : K4) (x y : BitVec 32) (w : World) : Calls Tryz.prog 136 #[.agg #[q32 k.k0, q32 k.k1, q32 k.k2, q32 k.k3], q32 x, q32 y] w fun e w' =>
    e = .returned (.agg #[q32 (Derive k x y).k0, q32 (Derive k x y).k1, q32 (Derive k x y).k2, q32 (Derive k x y).k3]) ∧ Below w.heap.size w w' := by
  go_enter Tryz.func136, Tryz.ntmps136
  go_wp2_with (first
    | (go_at_call 188; (with_reducible refine (enc_k _ _ _).mono ?_); rintro e w1 ⟨rfl, hb1⟩; obtain ⟨hc1, hf1⟩ := bcell hb1; have hz1 : w.heap.size + 1 < w1.heap.size := by have := hb1.size; simp at this; omega)
    | (go_at_call 188; (with_reducible refine (enc_k _ _ _).mono ?_); rintro e w2 ⟨rfl, hb2⟩; obtain ⟨hc2, hf2⟩ := bcell hb2; have hz2 : w1.heap.size ≤ w2.heap.size := hb2.size; have hz3 : w.heap.size + 1 < w2.heap.size := by omega))
  have hb := below_then (below_of_alloc (below_of_alloc2 hb1)) hb2
  refine bodyPost_ret (v := .agg #[q32 (Derive k x y).k0, q32 (Derive k x y).k1, q32 (Derive k x y).k2, q32 (Derive k x y).k3]) ?_ rfl ⟨rfl, (((hb.setCell (p := ⟨w.heap.size + 1, 0, none⟩) (by simp) _).setCell (p := ⟨w.heap.size + 1, 1, none⟩) (by simp) _).setCell (p := ⟨w.heap.size + 1, 2, none⟩) (by simp) _).setCell (p := ⟨w.heap.size + 1, 3, none⟩) (by simp) _⟩
  clear hb hb1 hb2
  simp [results, Tryz.results136, go_sem, hc1, hc2, hz1]
  exact ⟨rfl, rfl, rfl, rfl⟩

/-- What the loop's body must keep for the iterator: the old blocks, and the box of the slice. -/
def KeepAt (n₀ Bs : Nat) (W W' : World) : Prop := ∀ b, b < n₀ ∨ b = Bs → W'.heap[b]? = W.heap[b]?
theorem KeepAt.refl (n₀ Bs : Nat) (W : World) : KeepAt n₀ Bs W W := fun _ _ => rfl
theorem KeepAt.trans {n₀ Bs : Nat} {X Y Z : World} (h : KeepAt n₀ Bs X Y) (k : KeepAt n₀ Bs Y Z) : KeepAt n₀ Bs X Z := fun b hb => (k b hb).trans (h b hb)
theorem KeepAt.cell {n₀ Bs : Nat} {X Y : World} (h : KeepAt n₀ Bs X Y) {b o : Nat} (hb : b < n₀ ∨ b = Bs) : Y.cell? ⟨b, o, none⟩ = X.cell? ⟨b, o, none⟩ := World.cell?_of_block (a := ⟨b, o, none⟩) (h b hb)
theorem KeepAt.putObj {n₀ Bs : Nat} {w : World} (h1 : n₀ ≤ w.heap.size) (h2 : Bs < w.heap.size) (W : World) (l : Nat) (o o' : Obj) (hl : w.heap.size ≤ l) (_ : W.heap[l]? = some o) (_ : o.isCells = false) (_ : o.isWalk = false) : KeepAt n₀ Bs W (W.putObj l o') :=
  fun b hb => World.putObj_heap_other (by omega)
theorem KeepAt.of_below {n₀ Bs B : Nat} {W W' : World} (h : Below B W W') (h1 : n₀ ≤ B) (h2 : Bs < B) : KeepAt n₀ Bs W W' := fun b hb => h.block b (by omega)
theorem KeepAt.setCell {n₀ Bs : Nat} {W : World} {p : Addr} (h1 : n₀ ≤ p.block) (h2 : Bs ≠ p.block) (u : Value) : KeepAt n₀ Bs W (W.setCell p u) := fun b hb => Below.heap_setCell W p u b (by omega)
/-- mac.blocks: the slice is boxed; the function value captures the box. -/
theorem blocks_any (A : Option Addr) (n c : Nat) (w : World) :
    Calls Tryz.prog 187 #[.slice A n c] w fun e w' => e = .returned (.func (.func 224) #[] #[.pointer (some ⟨w.heap.size, 0, none⟩)]) ∧ w' = w.alloc (.cells #[.slice A n c] 47) := by
  go_enter Tryz.func187, Tryz.ntmps187
  go_wp2
  go_ret
  exact ⟨rfl, rfl⟩

set_option maxRecDepth 100000 in
set_option maxHeartbeats 4000000 in
/-- The iterator's closure: for every loop body that keeps what lay below n₀. -/
theorem blocks1_in (n : Nat) (hn : 1 ≤ n) (l Bs n₀ : Nat) (A : Option Addr) (c : Nat) (bs : List UInt8) (J Jx : List (BitVec 64) → World → Prop)
    (hY : ∀ pre x W, J pre W → pre.length < nblk bs + 1 → YieldAt Fence.wide (n - 1) Tryz.prog l #[q64 x] W fun e W' =>
      (e = .returned (.bool true) ∧ J (pre ++ [x]) W' ∧ KeepAt n₀ Bs W W') ∨ (e = .returned (.bool false) ∧ Jx (pre ++ [x]) W'))
    (W : World) (hBs : W.cell? ⟨Bs, 0, none⟩ = some (.slice A bs.length c)) (hlen : bs.length ≤ 65536)
    (hc : ∀ k, k < bs.length → ∃ b off, A = some ⟨b, off, none⟩ ∧ b < n₀ ∧ W.cell? ⟨b, off + k, none⟩ = some (q8 (nth bs k))) (h0 : J [] W) :
    CallsIn Fence.wide n Tryz.prog 224 #[.func (.yield l) #[] #[], .pointer (some ⟨Bs, 0, none⟩)] W fun e W' => (∃ v, e = .returned v) ∧
      ((∃ ys, ys = macBlocks bs ∧ J ys W') ∨ (∃ pre, pre <+: macBlocks bs ∧ Jx pre W')) := by
  refine callsIn_of_wp Tryz.func224 rfl trivial ?_ rfl
  simp only [Tryz.ntmps224, List.size_toArray, List.length_cons, List.length_nil, Nat.reduceAdd, Nat.reduceSub, Array.replicate_succ, Array.replicate_zero, List.push_toArray, List.append_toArray, List.nil_append, List.cons_append]
  obtain ⟨fn, tmps, assign, body, hy, hR⟩ := hY [] (BitVec.ofNat 64 bs.length) W h0 (by simp)
  have e1 := q64_len bs.length (by omega)
  gi_wp2
  clear e1
  refine hR.mono ?_
  rintro e W3 (⟨rfl, hJ3, hk3⟩ | ⟨rfl, hJx3⟩)
  · gi_wp2_with fail
    gi_loopw [3] (fun v wr => ∃ j : Nat, j ≤ nblk bs ∧ v = .int .i64 ((8 * j : Nat) : Int) ∧ J (blocksTo bs j) wr ∧ KeepAt n₀ Bs W wr) (fun v _ => bs.length + 8 - (intOf v).toNat)
    case atStart => exact ⟨0, Nat.zero_le _, rfl, hJ3, hk3⟩
    case round =>
      obtain ⟨j, hj, rfl, hJs, hnx⟩ := hrel
      have hBw := (hnx.cell (o := 0) (.inr rfl)).trans hBs
      by_cases hlt : 8 * j < bs.length
      · gi_wp2_with fail
        gi_loop [4, 18] (fun x i => ∃ m : Nat, m ≤ 8 ∧ i = .int .i64 m ∧ x = q64 (w8 bs (8 * j) m)) (fun _ i => 8 - (intOf i).toNat)
        case atStart => exact ⟨0, by omega, rfl, rfl⟩
        case round =>
          obtain ⟨m, hm, rfl, rfl⟩ := hrel
          by_cases hm8 : m < 8
          · by_cases hin : 8 * j + m < bs.length
            · obtain ⟨b, off, rfl, hb, hcc⟩ := hc (8 * j + m) hin
              have hcw := (hnx.cell (.inl hb)).trans hcc
              have H1 := Lib.hid (w8_in bs (8 * j) m hin)
              gi_wp2_with fail
              refine ⟨⟨m + 1, by omega, by go_num, by rw [H1.out]⟩, by simp [intOf]; omega⟩
            · have H1 := Lib.hid (w8_out bs (8 * j) m hin)
              gi_wp2_with fail
              refine ⟨⟨m + 1, by omega, by go_num, by rw [H1.out]⟩, by simp [intOf]; omega⟩
          · obtain rfl : m = 8 := by omega
            have hlen1 := blocksTo_length bs j
            obtain ⟨fn', tmps', assign', body', hy', hR'⟩ := hY (blocksTo bs j) (w8 bs (8 * j) 8) wr hJs (by unfold nblk; omega)
            clear hlen1 hc hy
            gi_wp2_with fail
            refine hR'.mono ?_
            rintro e W4 (⟨rfl, hJ4, hk4⟩ | ⟨rfl, hJx4⟩)
            · gi_wp2_with fail
              refine ⟨⟨j + 1, by unfold nblk; omega, by go_num, by rw [blocksTo_succ]; exact hJ4, hnx.trans hk4⟩, by simp [intOf]; omega⟩
            · gi_wp2_with fail
              refine bodyPost_ret (results_none rfl _ _ _) rfl ?_
              refine ⟨⟨_, rfl⟩, .inr ⟨blocksTo bs (j + 1), ?_, by rw [blocksTo_succ]; exact hJx4⟩⟩
              exact blocksTo_prefix bs (by unfold nblk; omega)
      · obtain rfl : j = nblk bs := by unfold nblk at hj ⊢; omega
        gi_wp2_with fail
        go_end0
        exact ⟨⟨_, rfl⟩, .inl ⟨_, rfl, hJs⟩⟩
  · gi_wp2
    refine bodyPost_ret (results_none rfl _ _ _) rfl ?_
    exact ⟨⟨_, rfl⟩, .inr ⟨blocksTo bs 0, blocksTo_prefix bs (Nat.zero_le _), hJx3⟩⟩
/-- What mac.blocks hands back, as a sequence: all blocks in order, or a prefix. -/
theorem blocks_stops (n : Nat) (hn : 1 ≤ n) (Bs n₀ : Nat) (A : Option Addr) (c : Nat) (bs : List UInt8) (w : World) (hBs : w.cell? ⟨Bs, 0, none⟩ = some (.slice A bs.length c)) (hBn : Bs < w.heap.size) (hn0 : n₀ ≤ w.heap.size) (hlen : bs.length ≤ 65536)
    (hc : ∀ k, k < bs.length → ∃ b off, A = some ⟨b, off, none⟩ ∧ b < n₀ ∧ w.cell? ⟨b, off + k, none⟩ = some (q8 (nth bs k))) :
    SeqStopsK Fence.wide n Tryz.prog 224 #[.pointer (some ⟨Bs, 0, none⟩)] (fun x : BitVec 64 => #[q64 x]) (KeepAt n₀ Bs) (fun ys => ys = macBlocks bs) (fun pre => pre <+: macBlocks bs) (nblk bs + 1) w := fun l J Jx W hW _ _ hY h0 =>
  blocks1_in n hn l Bs n₀ A c bs J Jx hY W ((hW.cell (p := ⟨Bs, 0, none⟩) (by show Bs < _; omega)).trans hBs) hlen
    (fun k hk => by
      obtain ⟨b, off, e, hb, hcc⟩ := hc k hk
      exact ⟨b, off, e, hb, (hW.cell (p := ⟨b, off + k, none⟩) (by show b < _; omega)).trans hcc⟩) h0

theorem blk_kept {W W' : World} {row : Option Nat} {g : Nat} {t : TypeId} {cs : Array Value} (h : Blk W g t cs) (hg : W.grownBy W' row) (hr : ∀ r, row = some r → ∃ o : Obj, W.heap[r]? = some o ∧ o.isCells = false) : Blk W' g t cs :=
  h.grown hg (fun e => by
    obtain ⟨o, ho, hc⟩ := hr g e.symm
    unfold Blk at h
    rw [h] at ho
    injection ho with ho
    subst ho
    cases hc)
theorem keepsOthers_below {W W' : World} (h : Below W.heap.size W W') : KeepsOthers W W' :=
  KeepsOthers.of_grownBy (row := none) ⟨h.os, h.tape, h.output, h.size, fun k hk _ => h.block k hk⟩ (fun _ _ e => by cases e)

set_option maxRecDepth 100000 in
set_option maxHeartbeats 4000000 in
theorem mac_k (k : K4) (A : Option Addr) (c : Nat) (bs : List UInt8) (w : World) (hb : Bytes w A c bs) (hlen : bs.length ≤ 65536) :
    Calls Tryz.prog 135 #[.agg #[q32 k.k0, q32 k.k1, q32 k.k2, q32 k.k3], .slice A bs.length c] w fun e w' => e = .returned (q64 (Mac k bs)) ∧ Below w.heap.size w w' := by
  refine (callsIn_wide (n := 5)).1 ?_
  refine callsIn_of_wp_marks Tryz.func135 rfl trivial ?_ rfl
  simp only [Tryz.ntmps135, List.size_toArray, List.length_cons, List.length_nil, Nat.reduceAdd, Nat.reduceSub, Array.replicate_succ, Array.replicate_zero, List.push_toArray, List.append_toArray, List.nil_append, List.cons_append]
  gi_wp2_with (refine ⟨trivial, ?_⟩; gi_at_call 187; refine (callsIn_wide.2 (blocks_any _ _ _ _)).mono ?_; rintro e w' ⟨rfl, rfl⟩)
  obtain ⟨w2, hw2⟩ : ∃ w2, w2 = (w.alloc (.cells #[q32 k.k0, q32 k.k1, q32 k.k2, q32 k.k3] 32)).alloc (.cells #[.int .u64 0] 113) := ⟨_, rfl⟩
  have hz2 : w2.heap.size = w.heap.size + 2 := by rw [hw2]; simp
  have hB2 : Below w.heap.size w w2 := by rw [hw2]; exact ((Below.refl _ w).alloc (Nat.le_refl _) _).alloc (by simp) _
  have hkey : Blk w2 w.heap.size 32 #[q32 k.k0, q32 k.k1, q32 k.k2, q32 k.k3] := by rw [hw2]; exact (Blk.new _ _ _).alloc _
  have hm0 : Blk w2 (w.heap.size + 1) 113 #[q64 (chain k 0 [])] := by rw [hw2]; exact Blk.newAt _ _ _ _ (by simp)
  have hb2 : Bytes w2 A c bs := hb.below hB2
  rw [← hw2]
  clear hw2
  have hbx : (w2.alloc (.cells #[.slice A bs.length c] 47)).cell? ⟨w.heap.size + 1 + 1, 0, none⟩ = some (.slice A bs.length c) := (Blk.newAt w2 47 #[.slice A bs.length c] (w.heap.size + 1 + 1) (by omega)).cell 0
  have hB3 : Below w.heap.size w (w2.alloc (.cells #[.slice A bs.length c] 47)) := hB2.alloc (by omega) _
  refine wpIn_rangeFunc_ownF rfl (by omega) (gf := 224) (lb := #[.pointer (some ⟨w.heap.size + 1 + 1, 0, none⟩)]) rfl trivial (enters_of Tryz.func224 (by kernel_rfl) rfl)
    (blocks_stops _ (by omega) (w.heap.size + 1 + 1) w.heap.size A c bs (w2.alloc (.cells #[.slice A bs.length c] 47)) hbx (by simp; omega) (by simp; omega) hlen ?hc) KeepAt.trans (KeepAt.putObj (by simp; omega) (by simp; omega)) (Below.refl _ _) (fun _ => rfl)
    (fun pre W => (Blk W w.heap.size 32 #[q32 k.k0, q32 k.k1, q32 k.k2, q32 k.k3] ∧ Blk W (w.heap.size + 1) 113 #[q64 (chain k 0 pre)] ∧ w.heap.size + 2 < W.heap.size) ∧ Below w.heap.size w W)
    (fun _ _ _ => False)
    (OwnFrom.and (Own.from (fun s X Y row hs hg hr => ⟨blk_kept hs.1 hg hr, blk_kept hs.2.1 hg hr, Nat.lt_of_lt_of_le hs.2.2 hg.size⟩) _) (ownFrom_below (Nat.le_refl _) (by simp; omega)))
    (fun _ _ _ _ _ hs _ _ => hs)
    ⟨⟨hkey.alloc _, hm0.alloc _, by simp; omega⟩, hB3⟩
    (fun x => { tmps := #[.agg #[q32 k.k0, q32 k.k1, q32 k.k2, q32 k.k3], .slice A bs.length c, .pointer (some ⟨w.heap.size, 0, none⟩), undef, .int .u64 0, .pointer (some ⟨w.heap.size + 1, 0, none⟩), q64 x, .slice A bs.length c, .func (.func 224) #[] #[.pointer (some ⟨w.heap.size + 1 + 1, 0, none⟩)], q64 x, undef, undef, undef, undef, undef, undef], defers := [] }) ?assign ?body ?done ?stop
  case hc =>
    intro i hi
    obtain ⟨b, off, e, hlt, hcc⟩ := hb.at_ hi
    exact ⟨b, off, e, hlt, (hB3.cell (p := ⟨b, off + i, none⟩) hlt).trans hcc⟩
  case assign =>
    intro l x W K hK
    gi_wp2
    exact hK
  case body =>
    rintro l pre x W ⟨⟨h1, h2, h3⟩, hB⟩ _
    have c1 := h1.cell
    have c2 := h2.cell
    have f2 := h2.frozen
    gi_wp2_with (refine ⟨trivial, ?_⟩; gi_at_call 188; refine (CallsIn.inRound l (callsIn_wide.2 (enc_k _ _ _))).mono ?_; rintro e W2 ⟨rfl, hb2⟩; obtain ⟨d1, d2⟩ := bcell hb2; have z2 : w.heap.size + 1 < W.heap.size := by omega)
    have hn : Blk (W2.setCell ⟨w.heap.size + 1, 0, none⟩ (q64 (Enc k (chain k 0 pre ^^^ x)))) (w.heap.size + 1) 113 #[q64 (chain k 0 (pre ++ [x]))] := by
      rw [chain_snoc]
      exact (h2.below hb2 h2.lt).set_ 0 _
    refine ⟨(keepsOthers_below hb2).trans (KeepsOthers.setCell _ _ _), (KeepAt.of_below hb2 (by omega) (by omega)).trans (KeepAt.setCell (by simp) (by simp) _), ⟨(h1.below hb2 h1.lt).far (p := ⟨w.heap.size + 1, 0, none⟩) (by simp) _, hn, ?_⟩, (hB.trans (hb2.mono hB.size)).setCell (p := ⟨w.heap.size + 1, 0, none⟩) (by simp) _⟩
    have := hb2.size
    simp [World.setCell]
    omega
  case done =>
    rintro D ys W hD rfl ⟨⟨h1, h2, h3⟩, hB⟩ hK
    have c2 := h2.cell
    gi_wp2
    refine ⟨by simp, .inl ⟨_, _, rfl, run_takeDeferred hK, ?_⟩⟩
    exact ⟨_, results_tmp rfl _ _ _, rfl, hB.trans (belowK_b (w := w) (Nat.le_refl _) W D _ _ (by simp at hD; omega) hK rfl rfl)⟩
  case stop =>
    rintro D c pre W _ _ h _
    exact h.elim
end Go.Proofs.YtpjdcpicfkdioaaGreatDoor
/- Bytes of the call's own, and append onto them. -/
namespace Go.Proofs.YtpjdcpicfkdioaaGreatDoor
open Go.RowKit

theorem info_u8 : (Tryz.prog.info? 5).map (fun i => (i.zero, i.size, i.bytes)) = some (some (.int .u8 0), 1, 1) := by kernel_rfl
/-- The slice is a row of the call's own, at or above base (or nil), and reads as these bytes. -/
def OwnB (w : World) (base : Nat) (A : Option Addr) (c : Nat) (bs : List UInt8) : Prop := w.ownsRow base 5 1 (.slice A bs.length c) bs.length (cellsOf bs)
def rowOf (A : Option Addr) : Option Nat := A.map (·.block)
section
variable {w w' : World} {base : Nat} {A : Option Addr} {c : Nat} {bs : List UInt8}
theorem OwnB.nil (w : World) (base : Nat) : OwnB w base none 0 [] := World.ownsRow_nil w base _ 1
theorem OwnB.bytes (h : OwnB w base A c bs) : Bytes w A c bs := by
  rcases h.2 with ⟨h', _⟩ | ⟨g', cap', cur, h', _⟩
  · simp only [Value.slice.injEq] at h'
    obtain ⟨rfl, h0, rfl⟩ := h'
    rw [List.eq_nil_of_length_eq_zero h0]
    exact Bytes.nil _
  · simp only [Value.slice.injEq] at h'
    obtain ⟨rfl, _, rfl⟩ := h'
    exact Bytes.own h
theorem OwnB.below (h : OwnB w base A c bs) (hb : Below w.heap.size w w') : OwnB w' base A c bs := own_below h hb
theorem OwnB.alloc (h : OwnB w base A c bs) (o : Obj) : OwnB (w.alloc o) base A c bs := World.ownsRow.alloc h o
theorem OwnB.drew (h : OwnB w base A c bs) : OwnB w.drew base A c bs := h
theorem OwnB.drewN (h : OwnB w base A c bs) (n : Nat) : OwnB (w.drewN n) base A c bs := h
theorem ownBlock_slice (A : Option Addr) (n c : Nat) : (Value.slice A n c).ownBlock = rowOf A := by cases A <;> rfl
theorem OwnB.row_ge (h : OwnB w base A c bs) : ∀ g, rowOf A = some g → base ≤ g ∧ g < w.heap.size := by
  have := World.ownsRow.lt h
  rw [ownBlock_slice] at this
  exact this
theorem OwnB.addr (h : OwnB w base A c bs) (hn : 0 < bs.length) : ∃ g, A = some ⟨g, 0, none⟩ ∧ base ≤ g ∧ g < w.heap.size := by
  obtain ⟨g, cap, e, h1, h2⟩ := World.ownsRow.form h hn
  simp only [Value.slice.injEq] at e
  exact ⟨g, e.1, h1, h2⟩
/-- One byte stored. -/
theorem OwnB.stored {g : Nat} (h : OwnB w base (some ⟨g, 0, none⟩) c bs) (k : Nat) (x : UInt8) :
    OwnB (w.setCell ⟨g, k, none⟩ (q8 x)) base (some ⟨g, 0, none⟩) c (bs.set k x) := by
  have := (World.ownsRow.stored h k (q8 x)).1
  unfold OwnB
  rw [List.length_set, show cellsOf (bs.set k x) = (cellsOf bs).set k (q8 x) by simp [cellsOf, List.map_set]]
  exact this
end
section
variable {P : Program} {w : World}
theorem wpList_app_bytes {ops : Array Oper} {rest : List Oper} {o : Oper} {a : Act} {Q : Exit → Act → World → Prop} (hgd : o.guard = none) (s x : Operand) 
    (ho : o.op = .call { callee := .builtin .append, args := #[s, x], argTypes := #[47, 47] })
    (base : Nat) (A1 : Option Addr) (c1 : Nat) (xs : List UInt8) (n1 : Nat) (hs : a.eval s = .slice A1 n1 c1) (hn1 : n1 = xs.length) (hown : OwnB w base A1 c1 xs)
    (A : Option Addr) (c : Nat) (bs : List UInt8) (n : Nat) (hx : a.eval x = .slice A n c) (hn : n = bs.length) (hr : Bytes w A c bs) (hlen : xs.length + bs.length ≤ 140737488355328) (hbase : base ≤ w.heap.size)
    (h : ∀ A2 c2 W, OwnB W base A2 c2 (xs ++ bs) → w.grownBy W (rowOf A1) → Below base w W → wpList Tryz.prog ops Q rest (a.put o.dst (.slice A2 (n1 + n) c2)) W) : wpList Tryz.prog ops Q (o :: rest) a w := by
  subst hn1
  subst hn
  obtain ⟨i0, hi0, hz0, hz1, hz2⟩ := info_parts info_u8
  refine wpList_append_any w hgd s x 47 ho base 5 i0 _ 1 1 Tryz.underlying47 hi0 hz0 hz1 hz2 rfl (by omega) _ _ _ hs hown w.heap.size A bs.length c (cellsOf bs) hx (hr.row.reads (cellsOf_length bs)) (cellsOf_one bs) (by simp only [maxLen]; omega) (by omega) hbase ?_
  intro v' W h1 h2 h3
  rw [ownBlock_slice] at h2
  have hb : Below base w W := (Below.refl base w).grown h2 hbase (fun k hk => (hown.row_ge k hk).1)
  have h4 : ∃ A2 c2, v' = .slice A2 (xs.length + bs.length) c2 := by
    rcases h1.2 with ⟨e, h0⟩ | ⟨g, cap, _, e, _⟩
    · exact ⟨none, 0, by rw [e, h0]⟩
    · exact ⟨_, _, e⟩
  obtain ⟨A2, c2, rfl⟩ := h4
  refine h A2 c2 W ?_ h2 hb
  unfold OwnB
  rw [List.length_append, cellsOf_append]
  exact h1
end
end Go.Proofs.YtpjdcpicfkdioaaGreatDoor
/- Bytes and strings: a slice of bytes made a string; two strings held against each other. -/
namespace Go.Proofs.YtpjdcpicfkdioaaGreatDoor
open Go.RowKit

def strOf (bs : List UInt8) : ByteArray := ⟨bs.toArray⟩
@[go_sem] theorem strOf_toList (a : List UInt8) : (strOf a).toList = a := by simp [strOf]
theorem run_bytes_string {w : World} {A : Option Addr} {c : Nat} {bs : List UInt8} (h : Bytes w A c bs) : (convert 47 9 (.slice A bs.length c)).run Tryz.prog w = .ok (.string (strOf bs)) w := by
  cases A with
  | none =>
    have h0 : bs = [] := by
      cases bs with
      | nil => rfl
      | cons x xs => obtain ⟨b, off, e, _⟩ := h.at_ (k := 0) (by simp); cases e
    subst h0
    exact run_convert_bytes_nil w 47 5 Tryz.underlying47 Tryz.underlying5 _ _ 9 Tryz.underlying9
  | some a =>
    refine run_convert_bytes_back (P := Tryz.prog) w 47 9 5 a c bs Tryz.underlying47 Tryz.underlying5 Tryz.underlying9 (fun j hj => ?_)
    obtain ⟨b, off, e, _, hc⟩ := h.at_ hj
    injection e with e
    subst e
    rw [Addr.add_lit, hc]
    unfold q8 nth
    rw [List.getD_eq_getElem?_getD, List.getElem?_eq_getElem hj]
    rfl
/-- A slice of bytes made a string in a region that draws its order. -/
theorem quiet_bytes_string {w : World} {K : Act → Prop} {a : Act} {o : Oper} (x : Operand) (ho : o.op = .convert 47 9 x) (A : Option Addr) (n c : Nat) (bs : List UInt8) (hx : a.eval x = .slice A n c) (hn : n = bs.length) (hB : Bytes w A c bs)
    (hk : K (a.put o.dst (.string (strOf bs)))) : o.quiet Tryz.prog a (fun w' => ∃ s : Kin w, w' = s.W) K := by
  subst hn
  refine ⟨.string (strOf bs), ?_, hk⟩
  rintro _ ⟨s, rfl⟩
  have h := run_bytes_string (hB.below s.below)
  unfold Oper.quietAt execOp
  simp only [ho, hx, Sem.run_bind, Sem.run_pure, Result.andThen_ok, h]
  exact ⟨rfl, rfl⟩
end Go.Proofs.YtpjdcpicfkdioaaGreatDoor
/- Bytes in a block of their own; slices.Clone of bytes. -/
namespace Go.Proofs.YtpjdcpicfkdioaaGreatDoor
open Go.RowKit

/-- A value that is a slice which reads as these bytes, in a block of its own at or above base that may be written. -/
def NewBytes (base : Nat) (bs : List UInt8) : Value → World → Prop := fun v w => ∃ A c, v = .slice A bs.length c ∧ Bytes w A c bs ∧
  (0 < bs.length → ∃ g, A = some ⟨g, 0, none⟩ ∧ base ≤ g ∧ g < w.heap.size ∧ ∀ i, i < bs.length → w.frozen? ⟨g, i, none⟩ = false)
theorem NewBytes.is {base : Nat} {bs : List UInt8} {v : Value} {w : World} (h : NewBytes base bs v w) : IsBytes bs v w := by
  obtain ⟨A, c, e, hB, _⟩ := h
  exact ⟨A, c, e, hB⟩
theorem NewBytes.grow {base : Nat} {bs : List UInt8} {v : Value} {w w' : World} (h : NewBytes base bs v w) (hb : Below w.heap.size w w') : NewBytes base bs v w' := by
  obtain ⟨A, c, e, hB, hf⟩ := h
  refine ⟨A, c, e, hB.below hb, fun h0 => ?_⟩
  obtain ⟨g, h1, h2, h3, h4⟩ := hf h0
  exact ⟨g, h1, h2, Nat.lt_of_lt_of_le h3 hb.size, fun i hi => (hb.frozen (p := ⟨g, i, none⟩) h3).trans (h4 i hi)⟩
theorem NewBytes.mono {base base' : Nat} {bs : List UInt8} {v : Value} {w : World} (h : NewBytes base bs v w) (hb : base' ≤ base) : NewBytes base' bs v w := by
  obtain ⟨A, c, e, hB, hf⟩ := h
  refine ⟨A, c, e, hB, fun h0 => ?_⟩
  obtain ⟨g, h1, h2, h3, h4⟩ := hf h0
  exact ⟨g, h1, by omega, h3, h4⟩
theorem NewBytes.own {w : World} {base : Nat} {A : Option Addr} {c : Nat} {bs : List UInt8} (h : OwnB w base A c bs) : NewBytes base bs (.slice A bs.length c) w := by
  refine ⟨A, c, rfl, h.bytes, fun h0 => ?_⟩
  obtain ⟨g, rfl, h1, h2⟩ := h.addr h0
  exact ⟨g, rfl, h1, h2, fun i _ => World.ownsRow.frozenAt h i⟩
theorem bclone_t (A : Option Addr) (n c : Nat) (bs : List UInt8) (w : World) (hn : bs.length = n) (hB : Bytes w A c bs) (hlen : bs.length ≤ 65536) :
    Calls Tryz.prog 146 #[.slice A n c] w fun e w' => ∃ A' c', e = .returned (.slice A' n c') ∧ OwnB w' w.heap.size A' c' bs ∧ Below w.heap.size w w' := by
  have q27 : ∀ (W : World) (a : Option Addr) (n c n' c' : Nat), (binOp .eql 47 (.slice a n c) (.slice none n' c')).run Tryz.prog W = .ok (.bool a.isNone) W := fun W a n c n' c' => Lib.run_eql_slice_nil W _ _ a n c n' c' Tryz.underlying47
  cases A with
  | none =>
    have h0 : bs = [] := by
      cases bs with
      | nil => rfl
      | cons x xs => obtain ⟨b, off, e, _⟩ := hB.at_ (k := 0) (by simp); cases e
    subst h0
    go_enter Tryz.func146, Tryz.ntmps146
    go_wp2
    go_ret
    exact ⟨none, 0, by rw [← hn]; rfl, OwnB.nil _ _, Below.refl _ _⟩
  | some ad =>
    have hO : OwnB (w.alloc (.cells #[] 5)) w.heap.size (some ⟨w.heap.size, 0, none⟩) 0 [] := ⟨by simp [cellsOf], .inr ⟨w.heap.size, 0, #[], rfl, Nat.le_refl _, Blk.new _ _ _, Nat.le_refl _, Nat.zero_le _, rfl, rfl⟩⟩
    have hb0 : Below w.heap.size w (w.alloc (.cells #[] 5)) := (Below.refl _ _).alloc (Nat.le_refl _) _
    have hlen' := Lib.hid hlen
    have hn' := Lib.hid hn
    clear hn hlen
    go_enter Tryz.func146, Tryz.ntmps146
    go_wp2_with (at_builtin; refine wpList_app_bytes rfl _ _ rfl w.heap.size (some ⟨w.heap.size, 0, none⟩) 0 [] 0 rfl rfl hO (some ad) c bs n rfl hn'.out.symm (hB.alloc _) (by have := hlen'.out; simp; omega) (by simp) ?_; intro A2 c2 W2 ho2 hgr2 hb2)
    go_ret
    simp only [List.nil_append] at ho2
    exact ⟨A2, c2, by simp, ho2, hb0.trans hb2⟩
theorem bclone_k (A : Option Addr) (n c : Nat) (bs : List UInt8) (w : World) (hn : bs.length = n) (hB : Bytes w A c bs) (hlen : bs.length ≤ 65536) :
    Calls Tryz.prog 146 #[.slice A n c] w fun e w' => ∃ v, e = .returned v ∧ NewBytes w.heap.size bs v w' ∧ Below w.heap.size w w' := by
  refine (bclone_t A n c bs w hn hB hlen).mono ?_
  rintro e w' ⟨A', c', rfl, ho, hb⟩
  refine ⟨_, rfl, ?_, hb⟩
  have := NewBytes.own ho
  rwa [hn] at this
end Go.Proofs.YtpjdcpicfkdioaaGreatDoor
