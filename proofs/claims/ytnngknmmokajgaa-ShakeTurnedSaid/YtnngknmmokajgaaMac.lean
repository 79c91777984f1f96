/- The seal's walks: the blocks handed on by an iterator, the chain over them, the key that is made. -/
import Derived.RangeFuncNested
import Derived.RangeFuncBound
import Derived.RangeFuncCalls
import Derived.RangeFuncLeaves
import Derived.RangeFuncFrom
import Derived.Shelf.Abstract
import Derived.Shelf.RegionOpen
import Derived.OwnWalkIn
import Derived.TacticsInMore
import Derived.LoopNIn
import Derived.LoopIn
import Derived.Test.YtnngknmmokajgaaCipher
import Derived.Test.YtnngknmmokajgaaGround
namespace Go.Proofs.Ytnngknmmokajgaa
open Go.RowKit Go.Shelf
attribute [local go_sem] Oper.semAt_some

theorem all_ones (a : BitVec 64) : BitVec.ofInt 64 18446744073709551615 ^^^ a = ~~~ a := by
  have : BitVec.ofInt 64 18446744073709551615 = BitVec.allOnes 64 := by decide
  rw [this, BitVec.allOnes_xor]
@[go_sem] theorem unary_xor_q64 (a : BitVec 64) : Op.unary .xor (q64 a) = pure (q64 (~~~ a)) := by
  have h : Op.unary .xor (q64 a) = binOp .xor 0 (q64 (BitVec.ofInt 64 18446744073709551615)) (q64 a) := rfl
  rw [h, q64_xor, all_ones]

theorem q64_len (n : Nat) (h : n < 18446744073709551616) : Value.int .u64 (n : Int) = q64 (BitVec.ofNat 64 n) := by
  unfold q64
  rw [BitVec.toNat_ofNat, Nat.mod_eq_of_lt h]
set_option maxHeartbeats 1000000 in
theorem derive_k (k : K4) (x y : BitVec 32) (w : World) : Calls Try.prog 55 #[.agg #[q32 k.k0, q32 k.k1, q32 k.k2, q32 k.k3], q32 x, q32 y] w fun e w' =>
    e = .returned (.agg #[q32 (Derive k x y).k0, q32 (Derive k x y).k1, q32 (Derive k x y).k2, q32 (Derive k x y).k3]) ∧ Below w.heap.size w w' := by
  go_enter Try.func55, Try.ntmps55
  go_wp2_with (first
    | (go_at_call 62; (with_reducible refine (enc_k _ _ _).mono ?_); rintro e w1 ⟨rfl, hb1⟩; obtain ⟨hc1, hf1⟩ := bcell hb1; have hz1 : w.heap.size + 1 < w1.heap.size := by have := hb1.size; simp at this; omega)
    | (go_at_call 62; (with_reducible refine (enc_k _ _ _).mono ?_); rintro e w2 ⟨rfl, hb2⟩; obtain ⟨hc2, hf2⟩ := bcell hb2; have hz2 : w1.heap.size ≤ w2.heap.size := hb2.size; have hz3 : w.heap.size + 1 < w2.heap.size := by omega))
  have hb := below_then (below_of_alloc (below_of_alloc2 hb1)) hb2
  refine bodyPost_ret (v := .agg #[q32 (Derive k x y).k0, q32 (Derive k x y).k1, q32 (Derive k x y).k2, q32 (Derive k x y).k3]) ?_ rfl ⟨rfl, (((hb.setCell (p := ⟨w.heap.size + 1, 0, none⟩) (by simp) _).setCell (p := ⟨w.heap.size + 1, 1, none⟩) (by simp) _).setCell (p := ⟨w.heap.size + 1, 2, none⟩) (by simp) _).setCell (p := ⟨w.heap.size + 1, 3, none⟩) (by simp) _⟩
  clear hb hb1 hb2
  simp [results, Try.results55, go_sem, hc1, hc2, hz1]
  exact ⟨rfl, rfl, rfl, rfl⟩

/-- What the loop's body must keep for the iterator: the old blocks, and the box of the slice. -/
def KeepAt (n₀ Bs : Nat) (W W' : World) : Prop := ∀ b, b < n₀ ∨ b = Bs → W'.heap[b]? = W.heap[b]?
theorem KeepAt.refl (n₀ Bs : Nat) (W : World) : KeepAt n₀ Bs W W := fun _ _ => rfl
theorem KeepAt.trans {n₀ Bs : Nat} {X Y Z : World} (h : KeepAt n₀ Bs X Y) (k : KeepAt n₀ Bs Y Z) : KeepAt n₀ Bs X Z := fun b hb => (k b hb).trans (h b hb)
theorem KeepAt.cell {n₀ Bs : Nat} {X Y : World} (h : KeepAt n₀ Bs X Y) {b o : Nat} (hb : b < n₀ ∨ b = Bs) : Y.cell? ⟨b, o, none⟩ = X.cell? ⟨b, o, none⟩ := World.cell?_of_block (a := ⟨b, o, none⟩) (h b hb)
theorem KeepAt.putObj {n₀ Bs : Nat} {w : World} (h1 : n₀ ≤ w.heap.size) (h2 : Bs < w.heap.size) (W : World) (l : Nat) (o o' : Obj) (hl : w.heap.size ≤ l) (_ : W.heap[l]? = some o) (_ : o.isCells = false) (_ : o.isWalk = false) : KeepAt n₀ Bs W (W.putObj l o') :=
  fun b hb => World.putObj_heap_other (by omega)
theorem KeepAt.of_below {n₀ Bs B : Nat} {W W' : World} (h : Below B W W') (h1 : n₀ ≤ B) (h2 : Bs < B) : KeepAt n₀ Bs W W' := fun b hb => h.block b (by omega)
theorem KeepAt.setCell {n₀ Bs : Nat} {W : World} {p : Addr} (h1 : n₀ ≤ p.block) (h2 : Bs ≠ p.block) (u : Value) : KeepAt n₀ Bs W (W.setCell p u) := fun b hb => Below.heap_setCell W p u b (by omega)
/-- mac.blocks: the slice is boxed; the function value captures the box. -/
theorem blocks_any (A : Option Addr) (n c : Nat) (w : World) :
    Calls Try.prog 61 #[.slice A n c] w fun e w' => e = .returned (.func (.func 69) #[] #[.pointer (some ⟨w.heap.size, 0, none⟩)]) ∧ w' = w.alloc (.cells #[.slice A n c] 27) := by
  go_enter Try.func61, Try.ntmps61
  go_wp2
  go_ret
  exact ⟨rfl, rfl⟩

set_option maxRecDepth 100000 in
set_option maxHeartbeats 4000000 in
/-- The iterator's closure: for every loop body that keeps what lay below n₀. -/
theorem blocks1_in (n : Nat) (hn : 1 ≤ n) (l Bs n₀ : Nat) (A : Option Addr) (c : Nat) (bs : List UInt8) (J Jx : List (BitVec 64) → World → Prop)
    (hY : ∀ pre x W, J pre W → pre.length < nblk bs + 1 → YieldAt Fence.wide (n - 1) Try.prog l #[q64 x] W fun e W' =>
      (e = .returned (.bool true) ∧ J (pre ++ [x]) W' ∧ KeepAt n₀ Bs W W') ∨ (e = .returned (.bool false) ∧ Jx (pre ++ [x]) W'))
    (W : World) (hBs : W.cell? ⟨Bs, 0, none⟩ = some (.slice A bs.length c)) (hlen : bs.length ≤ 65536)
    (hc : ∀ k, k < bs.length → ∃ b off, A = some ⟨b, off, none⟩ ∧ b < n₀ ∧ W.cell? ⟨b, off + k, none⟩ = some (q8 (nth bs k))) (h0 : J [] W) :
    CallsIn Fence.wide n Try.prog 69 #[.func (.yield l) #[] #[], .pointer (some ⟨Bs, 0, none⟩)] W fun e W' => (∃ v, e = .returned v) ∧
      ((∃ ys, ys = macBlocks bs ∧ J ys W') ∨ (∃ pre, pre <+: macBlocks bs ∧ Jx pre W')) := by
  refine callsIn_of_wp Try.func69 rfl trivial ?_ rfl
  simp only [Try.ntmps69, List.size_toArray, List.length_cons, List.length_nil, Nat.reduceAdd, Nat.reduceSub, Array.replicate_succ, Array.replicate_zero, List.push_toArray, List.append_toArray, List.nil_append, List.cons_append]
  obtain ⟨fn, tmps, assign, body, hy, hR⟩ := hY [] (BitVec.ofNat 64 bs.length) W h0 (by simp)
  have e1 := q64_len bs.length (by omega)
  gi_wp2
  clear e1
  refine hR.mono ?_
  rintro e W3 (⟨rfl, hJ3, hk3⟩ | ⟨rfl, hJx3⟩)
  · gi_wp2_with fail
    gi_loopw [3] (fun v wr => ∃ j : Nat, j ≤ nblk bs ∧ v = .int .i64 ((8 * j : Nat) : Int) ∧ J (blocksTo bs j) wr ∧ KeepAt n₀ Bs W wr) (fun v _ => bs.length + 8 - (intOf v).toNat)
    case atStart => exact ⟨0, Nat.zero_le _, rfl, hJ3, hk3⟩
    case round =>
      obtain ⟨j, hj, rfl, hJs, hnx⟩ := hrel
      have hBw := (hnx.cell (o := 0) (.inr rfl)).trans hBs
      by_cases hlt : 8 * j < bs.length
      · gi_wp2_with fail
        gi_loop [4, 18] (fun x i => ∃ m : Nat, m ≤ 8 ∧ i = .int .i64 m ∧ x = q64 (w8 bs (8 * j) m)) (fun _ i => 8 - (intOf i).toNat)
        case atStart => exact ⟨0, by omega, rfl, rfl⟩
        case round =>
          obtain ⟨m, hm, rfl, rfl⟩ := hrel
          by_cases hm8 : m < 8
          · by_cases hin : 8 * j + m < bs.length
            · obtain ⟨b, off, rfl, hb, hcc⟩ := hc (8 * j + m) hin
              have hcw := (hnx.cell (.inl hb)).trans hcc
              have H1 := Lib.hid (w8_in bs (8 * j) m hin)
              gi_wp2_with fail
              refine ⟨⟨m + 1, by omega, by go_num, by rw [H1.out]⟩, by simp [intOf]; omega⟩
            · have H1 := Lib.hid (w8_out bs (8 * j) m hin)
              gi_wp2_with fail
              refine ⟨⟨m + 1, by omega, by go_num, by rw [H1.out]⟩, by simp [intOf]; omega⟩
          · obtain rfl : m = 8 := by omega
            have hlen1 := blocksTo_length bs j
            obtain ⟨fn', tmps', assign', body', hy', hR'⟩ := hY (blocksTo bs j) (w8 bs (8 * j) 8) wr hJs (by unfold nblk; omega)
            clear hlen1 hc hy
            gi_wp2_with fail
            refine hR'.mono ?_
            rintro e W4 (⟨rfl, hJ4, hk4⟩ | ⟨rfl, hJx4⟩)
            · gi_wp2_with fail
              refine ⟨⟨j + 1, by unfold nblk; omega, by go_num, by rw [blocksTo_succ]; exact hJ4, hnx.trans hk4⟩, by simp [intOf]; omega⟩
            · gi_wp2_with fail
              refine bodyPost_ret (results_none rfl _ _ _) rfl ?_
              refine ⟨⟨_, rfl⟩, .inr ⟨blocksTo bs (j + 1), ?_, by rw [blocksTo_succ]; exact hJx4⟩⟩
              exact blocksTo_prefix bs (by unfold nblk; omega)
      · obtain rfl : j = nblk bs := by unfold nblk at hj ⊢; omega
        gi_wp2_with fail
        go_end0
        exact ⟨⟨_, rfl⟩, .inl ⟨_, rfl, hJs⟩⟩
  · gi_wp2
    refine bodyPost_ret (results_none rfl _ _ _) rfl ?_
    exact ⟨⟨_, rfl⟩, .inr ⟨blocksTo bs 0, blocksTo_prefix bs (Nat.zero_le _), hJx3⟩⟩
/-- What mac.blocks hands back, as a sequence: all blocks in order, or a prefix. -/
theorem blocks_stops (n : Nat) (hn : 1 ≤ n) (Bs n₀ : Nat) (A : Option Addr) (c : Nat) (bs : List UInt8) (w : World) (hBs : w.cell? ⟨Bs, 0, none⟩ = some (.slice A bs.length c)) (hBn : Bs < w.heap.size) (hn0 : n₀ ≤ w.heap.size) (hlen : bs.length ≤ 65536)
    (hc : ∀ k, k < bs.length → ∃ b off, A = some ⟨b, off, none⟩ ∧ b < n₀ ∧ w.cell? ⟨b, off + k, none⟩ = some (q8 (nth bs k))) :
    SeqStopsK Fence.wide n Try.prog 69 #[.pointer (some ⟨Bs, 0, none⟩)] (fun x : BitVec 64 => #[q64 x]) (KeepAt n₀ Bs) (fun ys => ys = macBlocks bs) (fun pre => pre <+: macBlocks bs) (nblk bs + 1) w := fun l J Jx W hW _ _ hY h0 =>
  blocks1_in n hn l Bs n₀ A c bs J Jx hY W ((hW.cell (p := ⟨Bs, 0, none⟩) (by show Bs < _; omega)).trans hBs) hlen
    (fun k hk => by
      obtain ⟨b, off, e, hb, hcc⟩ := hc k hk
      exact ⟨b, off, e, hb, (hW.cell (p := ⟨b, off + k, none⟩) (by show b < _; omega)).trans hcc⟩) h0

theorem blk_kept {W W' : World} {row : Option Nat} {g : Nat} {t : TypeId} {cs : Array Value} (h : Blk W g t cs) (hg : W.grownBy W' row) (hr : ∀ r, row = some r → ∃ o : Obj, W.heap[r]? = some o ∧ o.isCells = false) : Blk W' g t cs :=
  h.grown hg (fun e => by
    obtain ⟨o, ho, hc⟩ := hr g e.symm
    unfold Blk at h
    rw [h] at ho
    injection ho with ho
    subst ho
    cases hc)
theorem keepsOthers_below {W W' : World} (h : Below W.heap.size W W') : KeepsOthers W W' :=
  KeepsOthers.of_grownBy (row := none) ⟨h.os, h.tape, h.output, h.size, fun k hk _ => h.block k hk⟩ (fun _ _ e => by cases e)

set_option maxRecDepth 100000 in
set_option maxHeartbeats 4000000 in
theorem mac_k (k : K4) (A : Option Addr) (c : Nat) (bs : List UInt8) (w : World) (hb : Bytes w A c bs) (hlen : bs.length ≤ 65536) :
    Calls Try.prog 50 #[.agg #[q32 k.k0, q32 k.k1, q32 k.k2, q32 k.k3], .slice A bs.length c] w fun e w' => e = .returned (q64 (Mac k bs)) ∧ Below w.heap.size w w' := by
  refine (callsIn_wide (n := 5)).1 ?_
  refine callsIn_of_wp_marks Try.func50 rfl trivial ?_ rfl
  simp only [Try.ntmps50, List.size_toArray, List.length_cons, List.length_nil, Nat.reduceAdd, Nat.reduceSub, Array.replicate_succ, Array.replicate_zero, List.push_toArray, List.append_toArray, List.nil_append, List.cons_append]
  gi_wp2_with (refine ⟨trivial, ?_⟩; gi_at_call 61; refine (callsIn_wide.2 (blocks_any _ _ _ _)).mono ?_; rintro e w' ⟨rfl, rfl⟩)
  obtain ⟨w2, hw2⟩ : ∃ w2, w2 = (w.alloc (.cells #[q32 k.k0, q32 k.k1, q32 k.k2, q32 k.k3] 24)).alloc (.cells #[.int .u64 0] 28) := ⟨_, rfl⟩
  have hz2 : w2.heap.size = w.heap.size + 2 := by rw [hw2]; simp
  have hB2 : Below w.heap.size w w2 := by rw [hw2]; exact ((Below.refl _ w).alloc (Nat.le_refl _) _).alloc (by simp) _
  have hkey : Blk w2 w.heap.size 24 #[q32 k.k0, q32 k.k1, q32 k.k2, q32 k.k3] := by rw [hw2]; exact (Blk.new _ _ _).alloc _
  have hm0 : Blk w2 (w.heap.size + 1) 28 #[q64 (chain k 0 [])] := by rw [hw2]; exact Blk.newAt _ _ _ _ (by simp)
  have hb2 : Bytes w2 A c bs := hb.below hB2
  rw [← hw2]
  clear hw2
  have hbx : (w2.alloc (.cells #[.slice A bs.length c] 27)).cell? ⟨w.heap.size + 1 + 1, 0, none⟩ = some (.slice A bs.length c) := (Blk.newAt w2 27 #[.slice A bs.length c] (w.heap.size + 1 + 1) (by omega)).cell 0
  have hB3 : Below w.heap.size w (w2.alloc (.cells #[.slice A bs.length c] 27)) := hB2.alloc (by omega) _
  refine wpIn_rangeFunc_ownF rfl (by omega) (gf := 69) (lb := #[.pointer (some ⟨w.heap.size + 1 + 1, 0, none⟩)]) rfl trivial (enters_of Try.func69 (by kernel_rfl) rfl)
    (blocks_stops _ (by omega) (w.heap.size + 1 + 1) w.heap.size A c bs (w2.alloc (.cells #[.slice A bs.length c] 27)) hbx (by simp; omega) (by simp; omega) hlen ?hc) KeepAt.trans (KeepAt.putObj (by simp; omega) (by simp; omega)) (Below.refl _ _) (fun _ => rfl)
    (fun pre W => (Blk W w.heap.size 24 #[q32 k.k0, q32 k.k1, q32 k.k2, q32 k.k3] ∧ Blk W (w.heap.size + 1) 28 #[q64 (chain k 0 pre)] ∧ w.heap.size + 2 < W.heap.size) ∧ Below w.heap.size w W)
    (fun _ _ _ => False)
    (OwnFrom.and (Own.from (fun s X Y row hs hg hr => ⟨blk_kept hs.1 hg hr, blk_kept hs.2.1 hg hr, Nat.lt_of_lt_of_le hs.2.2 hg.size⟩) _) (ownFrom_below (Nat.le_refl _) (by simp; omega)))
    (fun _ _ _ _ _ hs _ _ => hs)
    ⟨⟨hkey.alloc _, hm0.alloc _, by simp; omega⟩, hB3⟩
    (fun x => { tmps := #[.agg #[q32 k.k0, q32 k.k1, q32 k.k2, q32 k.k3], .slice A bs.length c, .pointer (some ⟨w.heap.size, 0, none⟩), undef, .int .u64 0, .pointer (some ⟨w.heap.size + 1, 0, none⟩), q64 x, .slice A bs.length c, .func (.func 69) #[] #[.pointer (some ⟨w.heap.size + 1 + 1, 0, none⟩)], q64 x, undef, undef, undef, undef, undef, undef], defers := [] }) ?assign ?body ?done ?stop
  case hc =>
    intro i hi
    obtain ⟨b, off, e, hlt, hcc⟩ := hb.at_ hi
    exact ⟨b, off, e, hlt, (hB3.cell (p := ⟨b, off + i, none⟩) hlt).trans hcc⟩
  case assign =>
    intro l x W K hK
    gi_wp2
    exact hK
  case body =>
    rintro l pre x W ⟨⟨h1, h2, h3⟩, hB⟩ _
    have c1 := h1.cell
    have c2 := h2.cell
    have f2 := h2.frozen
    gi_wp2_with (refine ⟨trivial, ?_⟩; gi_at_call 62; refine (CallsIn.inRound l (callsIn_wide.2 (enc_k _ _ _))).mono ?_; rintro e W2 ⟨rfl, hb2⟩; obtain ⟨d1, d2⟩ := bcell hb2; have z2 : w.heap.size + 1 < W.heap.size := by omega)
    have hn : Blk (W2.setCell ⟨w.heap.size + 1, 0, none⟩ (q64 (Enc k (chain k 0 pre ^^^ x)))) (w.heap.size + 1) 28 #[q64 (chain k 0 (pre ++ [x]))] := by
      rw [chain_snoc]
      exact (h2.below hb2 h2.lt).set_ 0 _
    refine ⟨(keepsOthers_below hb2).trans (KeepsOthers.setCell _ _ _), (KeepAt.of_below hb2 (by omega) (by omega)).trans (KeepAt.setCell (by simp) (by simp) _), ⟨(h1.below hb2 h1.lt).far (p := ⟨w.heap.size + 1, 0, none⟩) (by simp) _, hn, ?_⟩, (hB.trans (hb2.mono hB.size)).setCell (p := ⟨w.heap.size + 1, 0, none⟩) (by simp) _⟩
    have := hb2.size
    simp [World.setCell]
    omega
  case done =>
    rintro D ys W hD rfl ⟨⟨h1, h2, h3⟩, hB⟩ hK
    have c2 := h2.cell
    gi_wp2
    refine ⟨by simp, .inl ⟨_, _, rfl, run_takeDeferred hK, ?_⟩⟩
    exact ⟨_, results_tmp rfl _ _ _, rfl, hB.trans (belowK_b (w := w) (Nat.le_refl _) W D _ _ (by simp at hD; omega) hK rfl rfl)⟩
  case stop =>
    rintro D c pre W _ _ h _
    exact h.elim
end Go.Proofs.Ytnngknmmokajgaa
