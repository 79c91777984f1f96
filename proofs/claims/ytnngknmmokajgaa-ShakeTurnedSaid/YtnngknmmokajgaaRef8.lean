/- The document's seal, walked. -/
import Derived.Test.YtnngknmmokajgaaRef7
import Derived.Test.YtnngknmmokajgaaGround
namespace Go.Proofs.Ytnngknmmokajgaa
open Go.RowKit

theorem q64_lenR (n : Nat) (h : n < 18446744073709551616) : Value.int .u64 (n : Int) = q64 (BitVec.ofNat 64 n) := by
  unfold q64
  rw [BitVec.toNat_ofNat, Nat.mod_eq_of_lt h]
theorem info_u64 : (Try.prog.info? 28).map (fun i => (i.zero, i.size, i.bytes)) = some (some (.int .u64 0), 1, 8) := by kernel_rfl
theorem one_q64 (l : List (BitVec 64)) : ∀ u ∈ l.map q64, u.oneCell' = true := by
  intro u hu
  simp only [List.mem_map] at hu
  obtain ⟨x, _, rfl⟩ := hu
  rfl
theorem mul256 (x : BitVec 64) : x * BitVec.ofInt 64 256 = x <<< 8 := by
  have : BitVec.ofInt 64 256 = 256 := by decide
  rw [this, shl8_mul]
theorem w8_ref_in (bs : List UInt8) (p i : Nat) (h : p + i < bs.length) : w8 bs p (i + 1) = w8 bs p i * 256#64 + BitVec.ofNat 64 (nth bs (p + i)).toNat := by
  rw [w8_in bs p i h, ← shl8_add _ _ (nth bs (p + i)).toNat_lt]
  congr 1
  exact (shl8_mul _).symm
theorem w8_ref_out (bs : List UInt8) (p i : Nat) (h : ¬ p + i < bs.length) : w8 bs p (i + 1) = w8 bs p i * 256#64 := by
  rw [w8_out bs p i h]
  exact (shl8_mul _).symm

set_option maxHeartbeats 2000000 in
theorem rblocks_any (A : Option Addr) (c : Nat) (bs : List UInt8) (w : World) (hb : Bytes w A c bs) (hlen : bs.length ≤ 65536) :
    Calls Try.prog 63 #[.slice A bs.length c] w fun e w' => ∃ g c', e = .returned (.slice (some ⟨g, 0, none⟩) (nblk bs + 1) c') ∧ w'.ownsRow w.heap.size 28 1 (.slice (some ⟨g, 0, none⟩) (nblk bs + 1) c') (nblk bs + 1) ((macBlocks bs).map q64) ∧ Below w.heap.size w w' := by
  obtain ⟨i0, hi0, hz0, hz1, hz2⟩ := info_parts info_u64
  have e1 := q64_lenR bs.length (by omega)
  go_enter Try.func63, Try.ntmps63
  go_wp2_with fail
  clear e1
  go_loopw [3, 4] (fun v i wr => ∃ j g c' : Nat, j ≤ nblk bs ∧ i = .int .i64 ((8 * j : Nat) : Int) ∧ v = .slice (some ⟨g, 0, none⟩) (j + 1) c' ∧
      wr.ownsRow w.heap.size 28 1 (.slice (some ⟨g, 0, none⟩) (j + 1) c') (j + 1) ((blocksTo bs j).map q64) ∧ Below w.heap.size w wr) (fun _ i _ => bs.length + 8 - (intOf i).toNat)
  case atStart => exact ⟨0, w.heap.size, 1, Nat.zero_le _, rfl, rfl, own_lit w.heap.size _ #[q64 (BitVec.ofNat 64 bs.length)] 1 _ rfl (Nat.le_refl _) (by decide) rfl, (Below.refl _ _).alloc (Nat.le_refl _) _⟩
  case round =>
    obtain ⟨j, g, c', hj, rfl, rfl, ho, hB⟩ := hrel
    by_cases hlt : 8 * j < bs.length
    · go_wp2_with fail
      obtain ⟨wo, rfl⟩ : ∃ wo : World, wo = wr := ⟨_, rfl⟩
      go_loop [5, 6] (fun x i => ∃ m : Nat, m ≤ 8 ∧ i = .int .i64 ((8 * j + m : Nat) : Int) ∧ x = q64 (w8 bs (8 * j) m)) (fun _ i => 8 * j + 8 - (intOf i).toNat)
      case atStart => exact ⟨0, by omega, rfl, rfl⟩
      case round =>
        obtain ⟨m, hm, rfl, rfl⟩ := hrel
        by_cases hm8 : m < 8
        · by_cases hin : 8 * j + m < bs.length
          · obtain ⟨b, off, rfl, hlt', hcc⟩ := hb.at_ hin
            have hcw := (hB.cell (p := ⟨b, off + (8 * j + m), none⟩) hlt').trans hcc
            have H1 := Lib.hid (w8_ref_in bs (8 * j) m hin)
            go_wp2_with fail
            refine ⟨⟨m + 1, by omega, by go_num, by rw [H1.out]⟩, by simp [intOf]; omega⟩
          · have H1 := Lib.hid (w8_ref_out bs (8 * j) m hin)
            go_wp2_with fail
            refine ⟨⟨m + 1, by omega, by go_num, by rw [H1.out]⟩, by simp [intOf]; omega⟩
        · obtain rfl : m = 8 := by omega
          have hs := hB.size
          go_wp2_with (at_builtin; (with_reducible refine wpList_push rfl (.tmp 37) (.tmp 39) 81 rfl w.heap.size 28 i0 _ 1 8 Try.underlying81 hi0 hz0 hz1 hz2 rfl (by omega) (.slice (some ⟨g, 0, none⟩) (j + 1) c') (j + 1) ((blocksTo bs j).map q64) rfl (ho.alloc _) _ (some ⟨wo.heap.size, 0, none⟩) 1 1 ([blkAt bs j].map q64) rfl (Reads.block (Blk.new _ _ _) rfl) (one_q64 _) (by omega) (by unfold nblk at hj; simp only [maxLen]; omega) (by unfold nblk at hj; omega) (by simp; omega) ?_); intro g' c2 W2 ho2 hat hg2)
          have hgl := (ho.lt g rfl).1
          have hB2 := (hB.alloc hs (.cells #[q64 (w8 bs (8 * j) 8)] 28)).grown hg2 (by simp; omega) (by intro x hx; simp [Value.ownBlock] at hx; omega)
          refine ⟨⟨j + 1, g', c2, by unfold nblk; omega, by go_num, rfl, ?_, hB2⟩, by simp [intOf]; omega⟩
          rw [blocksTo_succ, List.map_append]
          exact ho2
    · obtain rfl : j = nblk bs := by unfold nblk at hj ⊢; omega
      go_wp2_with fail
      go_ret
      exact ⟨g, c', rfl, ho, hB⟩

set_option maxHeartbeats 2000000 in
theorem rmac_k (k : K4) (A : Option Addr) (c : Nat) (bs : List UInt8) (w : World) (hb : Bytes w A c bs) (hlen : bs.length ≤ 65536) :
    Calls Try.prog 53 #[.agg #[q32 k.k0, q32 k.k1, q32 k.k2, q32 k.k3], .slice A bs.length c] w fun e w' => e = .returned (q64 (Mac k bs)) ∧ Below w.heap.size w w' := by
  go_enter Try.func53, Try.ntmps53
  go_wp2_with (go_at_call 63; (with_reducible refine (rblocks_any _ _ _ _ (hb.alloc _) hlen).mono ?_); rintro e w1 ⟨g, c', rfl, ho, hb1⟩)
  have hk1 : Blk w1 w.heap.size 24 #[q32 k.k0, q32 k.k1, q32 k.k2, q32 k.k3] := (Blk.new w _ _).below hb1 (by simp)
  have hB1 := below_of_alloc hb1
  have hnb : nblk bs ≤ 65536 := by unfold nblk; omega
  go_loopw [6, 7] (fun m i wr => ∃ j : Nat, j ≤ nblk bs + 1 ∧ i = .int .i64 j ∧ m = q64 (chain k 0 ((macBlocks bs).take j)) ∧ Below w1.heap.size w1 wr) (fun _ i _ => nblk bs + 1 - (intOf i).toNat)
  case atStart => exact ⟨0, by omega, rfl, rfl, Below.refl _ _⟩
  case round =>
    obtain ⟨j, hj, rfl, rfl, hBr⟩ := hrel
    have hl : (macBlocks bs).length = nblk bs + 1 := blocksTo_length _ _
    by_cases hlt : j < nblk bs + 1
    · have hj' : j < (macBlocks bs).length := by omega
      have hkr := (hk1.below hBr hk1.lt).cell
      have hkl := hk1.lt
      have hz := hBr.size
      have hgz := (ho.lt g rfl).2
      obtain ⟨bj, hbj⟩ : ∃ b, (macBlocks bs)[j]? = some b := ⟨_, List.getElem?_eq_getElem hj'⟩
      have e1 : wr.cell? ⟨g, j, none⟩ = some (q64 bj) := (hBr.cell (p := ⟨g, j, none⟩) hgz).trans ((ho.cellAt j (by omega)).trans (by simp [hbj]))
      have h1 : (macBlocks bs).take (j + 1) = (macBlocks bs).take j ++ [bj] := by rw [List.take_add_one, hbj]; rfl
      have H1 := Lib.hid h1
      clear hl hj' h1 hbj
      have hkz : w.heap.size < wr.heap.size := by omega
      have hgr : g < wr.heap.size := by omega
      go_wp2_with fail
      refine wp_region_kin (by kernel_rfl) (by kernel_rfl) ?_
      repeat (go_big_quiet_step ((go_at_call 56; exact kin_call (renc_k _ _ _))))
      refine wpQuiet_nil ?_
      intro W hW
      replace hW := kin_out hW
      go_wp2_with fail
      refine ⟨⟨j + 1, by omega, by go_num, by rw [H1.out, chain_snoc]; rfl, hBr.trans (hW.mono hz)⟩, by simp [intOf]; omega⟩
    · obtain rfl : j = nblk bs + 1 := by omega
      have H1 := Lib.hid (List.take_of_length_le (l := macBlocks bs) (i := nblk bs + 1) (by omega))
      clear hl
      go_wp2_with fail
      go_ret
      refine ⟨?_, hB1.trans (hBr.mono hB1.size)⟩
      unfold Mac
      exact congrArg (fun l => Ending.returned (q64 (chain k 0 l))) H1.out

theorem two32 : BitVec.ofInt 64 4294967296 = 4294967296#64 := by decide
theorem ones64 : BitVec.ofInt 64 18446744073709551615 = 18446744073709551615#64 := by decide
@[go_sem] theorem q64_quo_32 (t : TypeId) (a : BitVec 64) : binOp .quo t (q64 a) (.int .u64 4294967296) = pure (q64 (a >>> 32)) := by
  have e : (IntKind.u64.wrap ((a.toNat : Int).tdiv 4294967296)) = ((a >>> 32).toNat : Int) := by
    have := a.isLt
    rw [IntKind.wrap_u64, BitVec.toNat_ushiftRight, Nat.shiftRight_eq_div_pow, Int.tdiv_eq_ediv_of_nonneg (by omega)]
    simp; omega
  show binOp .quo t (.int .u64 _) (.int .u64 _) = _
  rw [binOp_quo]
  unfold Op.intDiv
  simp only [show ¬ ((4294967296 : Int) = 0) by decide, if_false]
  exact congrArg (fun n => (pure (Value.int .u64 n) : Sem Value)) e
set_option maxHeartbeats 1000000 in
theorem rderive_k (k : K4) (x y : BitVec 32) (w : World) : Calls Try.prog 39 #[.agg #[q32 k.k0, q32 k.k1, q32 k.k2, q32 k.k3], q32 x, q32 y] w fun e w' =>
    e = .returned (.agg #[q32 (Derive k x y).k0, q32 (Derive k x y).k1, q32 (Derive k x y).k2, q32 (Derive k x y).k3]) ∧ Below w.heap.size w w' := by
  have e1 : x.setWidth 64 * 4294967296#64 + y.setWidth 64 = join2 (x, y) := join_mul x y
  have e2 : ∀ a : BitVec 64, 18446744073709551615#64 - a = ~~~ a := not_sub
  go_enter Try.func39, Try.ntmps39
  go_wp2_with (first
    | (go_at_call 56; (with_reducible refine (renc_k _ _ _).mono ?_); rintro e w1 ⟨rfl, hb1⟩; obtain ⟨hc1, hf1⟩ := bcell hb1; have hz1 : w.heap.size + 1 < w1.heap.size := by have := hb1.size; simp at this; omega)
    | (go_at_call 56; (with_reducible refine (renc_k _ _ _).mono ?_); rintro e w2 ⟨rfl, hb2⟩; obtain ⟨hc2, hf2⟩ := bcell hb2; have hz2 : w1.heap.size ≤ w2.heap.size := hb2.size; have hz3 : w.heap.size + 1 < w2.heap.size := by omega))
  have hb := below_then (below_of_alloc (below_of_alloc2 hb1)) hb2
  refine bodyPost_ret (v := .agg #[q32 (Derive k x y).k0, q32 (Derive k x y).k1, q32 (Derive k x y).k2, q32 (Derive k x y).k3]) ?_ rfl ⟨rfl, (((hb.setCell (p := ⟨w.heap.size + 1, 0, none⟩) (by simp) _).setCell (p := ⟨w.heap.size + 1, 1, none⟩) (by simp) _).setCell (p := ⟨w.heap.size + 1, 2, none⟩) (by simp) _).setCell (p := ⟨w.heap.size + 1, 3, none⟩) (by simp) _⟩
  clear hb hb1 hb2
  simp [results, Try.results39, go_sem, hc1, hc2, hz1]
  exact ⟨rfl, rfl, rfl, rfl⟩
end Go.Proofs.Ytnngknmmokajgaa
