/- The document's cipher, walked: the same keys of the rounds, the same blocks there and back. -/
import Derived.Test.YtnngknmmokajgaaCipher
import Derived.Test.YtnngknmmokajgaaGround
namespace Go.Proofs.Ytnngknmmokajgaa
open Go.RowKit

theorem right_8 (x : BitVec 32) (w : World) : Calls Try.prog 66 #[q32 x, .int .i64 8] w fun e w' => e = .returned (q32 (x.rotateLeft 24)) ∧ ∃ n, w' = w.drewN n := by
  go_enter Try.func66, Try.ntmps66
  go_wp2
  go_quiet (fail)
  go_wp2
  go_ret
  exact ⟨by rw [← rot24, BitVec.or_comm]; rfl, _, rfl⟩
theorem right_3 (x : BitVec 32) (w : World) : Calls Try.prog 66 #[q32 x, .int .i64 3] w fun e w' => e = .returned (q32 (x.rotateLeft 29)) ∧ ∃ n, w' = w.drewN n := by
  go_enter Try.func66, Try.ntmps66
  go_wp2
  go_quiet (fail)
  go_wp2
  go_ret
  exact ⟨by rw [← rot29, BitVec.or_comm]; rfl, _, rfl⟩
theorem left_3 (x : BitVec 32) (w : World) : Calls Try.prog 67 #[q32 x, .int .i64 3] w fun e w' => e = .returned (q32 (x.rotateLeft 3)) ∧ ∃ n, w' = w.drewN n := by
  go_enter Try.func67, Try.ntmps67
  go_wp2
  go_quiet (fail)
  go_wp2
  go_ret
  exact ⟨by rw [← rot3]; rfl, _, rfl⟩
theorem left_8 (x : BitVec 32) (w : World) : Calls Try.prog 67 #[q32 x, .int .i64 8] w fun e w' => e = .returned (q32 (x.rotateLeft 8)) ∧ ∃ n, w' = w.drewN n := by
  go_enter Try.func67, Try.ntmps67
  go_wp2
  go_quiet (fail)
  go_wp2
  go_ret
  exact ⟨by rw [← rot8]; rfl, _, rfl⟩
/-- The lists of the document's schedule, as far as they are made. -/
def ksL (k : K4) (n : Nat) : List Value := (List.range n).map fun j => q32 (rk k j)
def lsL (k : K4) (n : Nat) : List Value := (List.range n).map fun j => q32 (lk k j)
theorem ksL_at (k : K4) (n j : Nat) (h : j < n) : (ksL k n)[j]? = some (q32 (rk k j)) := by simp [ksL, h]
theorem lsL_at (k : K4) (n j : Nat) (h : j < n) : (lsL k n)[j]? = some (q32 (lk k j)) := by simp [lsL, h]
theorem ksL_snoc (k : K4) (n : Nat) : ksL k n ++ [q32 (rk k n)] = ksL k (n + 1) := by simp [ksL, List.range_succ]
theorem lsL_snoc (k : K4) (n : Nat) : lsL k n ++ [q32 (lk k n)] = lsL k (n + 1) := by simp [lsL, List.range_succ]
theorem info_u32 : (Try.prog.info? 22).map (fun i => (i.zero, i.size, i.bytes)) = some (some (.int .u32 0), 1, 4) := by kernel_rfl
theorem one_q32 (x : BitVec 32) : ∀ u ∈ [q32 x], u.oneCell' = true := by intro u hu; simp at hu; subst hu; rfl

set_option maxHeartbeats 2000000 in
theorem rrounds_k (k : K4) (w : World) : Calls Try.prog 65 #[.agg #[q32 k.k0, q32 k.k1, q32 k.k2, q32 k.k3]] w fun e w' => e = .returned (.agg (outA k 27)) ∧ Below w.heap.size w w' := by
  obtain ⟨i0, hi0, hz0, hz1, hz2⟩ := info_parts info_u32
  go_enter Try.func65, Try.ntmps65
  go_wp2_with fail
  go_loopw [3, 4, 5] (fun u v c wr => ∃ i g h c1 c2 : Nat, i ≤ 26 ∧ c = .int .i64 i ∧ u = .slice (some ⟨g, 0, none⟩) (i + 1) c1 ∧ v = .slice (some ⟨h, 0, none⟩) (i + 3) c2 ∧ g ≠ h ∧
      wr.ownsRow w.heap.size 22 1 (.slice (some ⟨g, 0, none⟩) (i + 1) c1) (i + 1) (ksL k (i + 1)) ∧ wr.ownsRow w.heap.size 22 1 (.slice (some ⟨h, 0, none⟩) (i + 3) c2) (i + 3) (lsL k (i + 3)) ∧
      Below w.heap.size w wr ∧ w.heap.size + 1 < g ∧ w.heap.size + 1 < h ∧ Blk wr (w.heap.size + 1) 84 (outA k 0)) (fun _ _ c _ => 26 - (intOf c).toNat)
  case atStart =>
    refine ⟨0, w.heap.size + 2, w.heap.size + 3, 1, 3, by omega, rfl, rfl, rfl, by omega, ?_, ?_, ?_, by omega, by omega, ?_⟩
    · exact (own_lit w.heap.size _ #[q32 k.k3] 1 _ (by simp) (by simp; omega) (by decide) rfl).alloc _
    · exact own_lit w.heap.size _ #[q32 k.k2, q32 k.k1, q32 k.k0] 3 _ (by simp) (by simp; omega) (by decide) rfl
    · exact (((((Below.refl _ _).alloc (Nat.le_refl _) _).alloc (by simp <;> omega) _).alloc (by simp <;> omega) _).alloc (by simp <;> omega) _)
    · exact ((Blk.newAt _ _ _ _ (by simp)).alloc _).alloc _
  case round =>
    obtain ⟨i, g, h, c1, c2, hi, rfl, rfl, rfl, hgh, hk, hl, hB, hg, hh, hb⟩ := hrel
    have hzr := hB.size
    by_cases hlt : i < 26
    · have e1 := (hk.cellAt i (by omega)).trans (ksL_at k (i + 1) i (by omega))
      have e2 := (hl.cellAt i (by omega)).trans (lsL_at k (i + 3) i (by omega))
      have hgz := (hk.lt g rfl).2
      have hhz := (hl.lt h rfl).2
      clear hzr
      go_wp2_with fail
      refine wp_region_kin (by kernel_rfl) (by kernel_rfl) ?_
      repeat (go_big_quiet_step ((go_at_call 66; exact kin_drew (right_8 _ _))))
      refine wpQuiet_nil ?_
      intro W hW
      replace hW := kin_out hW
      clear e1 e2
      have hzW := hW.size
      go_wp2_with (first
        | (at_builtin; (with_reducible refine wpList_push rfl (.tmp 38) (.tmp 40) 89 rfl w.heap.size 22 i0 _ 1 4 Try.underlying89 hi0 hz0 hz1 hz2 rfl (by omega) (.slice (some ⟨h, 0, none⟩) (i + 3) c2) (i + 3) (lsL k (i + 3)) rfl ((own_below hl hW).alloc _) _ (some ⟨W.heap.size, 0, none⟩) 1 1 [q32 (lk k (i + 3))] rfl (Reads.block (Blk.new _ _ _) rfl) (one_q32 _) (by omega) (by simp only [maxLen]; omega) (by omega) (by simp; omega) ?_); intro h' c2' W2 hl2 hat2 hg2; have hk2 := own_other ((own_below hk hW).alloc _) hg2 hgh; have e1' := (hk2.cellAt i (by omega)).trans (ksL_at k (i + 1) i (by omega)); have hzW2 : W.heap.size < W2.heap.size := by have := hg2.size; simp at this; omega)
        | (go_at_call 67; (with_reducible refine (left_3 _ _).mono ?_); rintro e w3 ⟨rfl, n3, rfl⟩)
        | (at_builtin; (refine wpList_push rfl (.tmp 42) (.tmp 50) 89 rfl w.heap.size 22 i0 _ 1 4 Try.underlying89 hi0 hz0 hz1 hz2 rfl (by omega) (.slice (some ⟨g, 0, none⟩) (i + 1) c1) (i + 1) (ksL k (i + 1)) rfl (World.ownsRow.alloc (w := W2.drewN n3) hk2 _) _ (some ⟨W2.heap.size, 0, none⟩) 1 1 _ rfl (Reads.block (w := (W2.drewN n3).alloc _) (Blk.new _ _ _) rfl) (one_q32 _) (by omega) (by simp only [maxLen]; omega) (by omega) (by simp; omega) ?_); intro g' c1' W4 hk4 hat4 hg4))
      have hg2' : (W.alloc (.cells #[q32 (lk k (i + 3))] 22)).grownBy W2 (some h) := hg2
      have hg4' : ((W2.drewN n3).alloc (.cells #[q32 (rk k (i + 1))] 22)).grownBy W4 (some g) := hg4
      have hk4' : W4.ownsRow w.heap.size 22 1 (.slice (some ⟨g', 0, none⟩) (i + 1 + 1) c1') (i + 1 + 1) (ksL k (i + 1 + 1)) := by
        have := ksL_snoc k (i + 1)
        rw [← this]
        exact hk4
      rw [lsL_snoc] at hl2
      have hh' : h' = h ∨ h' = W.heap.size + 1 := by
        rcases hat2 with e | e
        · exact .inl (by simpa [Value.ownBlock] using e.symm)
        · exact .inr (by simpa using e)
      have hg' : g' = g ∨ g' = W2.heap.size + 1 := by
        rcases hat4 with e | e
        · exact .inl (by simpa [Value.ownBlock] using e.symm)
        · exact .inr (by simpa using e)
      have hlt2 := (hl2.lt h' rfl).2
      have hlt4 := (hk4.lt g' rfl).2
      have hne : h' ≠ g := by omega
      have hl4 := own_other ((World.ownsRow.alloc (w := W2.drewN n3) hl2 _)) hg4' hne
      have hbW := hB.trans (hW.mono hB.size)
      have hbW2 := (hbW.alloc hbW.size (.cells #[q32 (lk k (i + 3))] 22)).grown hg2' (by simp; omega) (by intro x hx; cases hx; omega)
      have hbW4 := ((below_drewN hbW2 n3).alloc hbW2.size (.cells #[q32 (rk k (i + 1))] 22)).grown hg4' (by simp; omega) (by intro x hx; cases hx; omega)
      have hb4 := ((((hb.below hW hb.lt).alloc (.cells #[q32 (lk k (i + 3))] 22)).grown hg2' (by simp; omega)).drewN n3 |>.alloc (.cells #[q32 (rk k (i + 1))] 22)).grown hg4' (by simp; omega)
      refine ⟨⟨i + 1, g', h', c1', c2', by omega, by go_num, rfl, rfl, by omega, hk4', hl4, hbW4, by omega, by omega, hb4⟩, by simp [intOf]; omega⟩
    · obtain rfl : i = 26 := by omega
      have hgz := (hk.lt g rfl).2
      clear hl hgh hh
      go_wp2_with fail
      obtain ⟨wo, rfl⟩ : ∃ wo : World, wo = wr := ⟨_, rfl⟩
      go_loopw [9] (fun c wr => ∃ i : Nat, i ≤ 27 ∧ c = .int .i64 i ∧ Blk wr wo.heap.size 84 (outA k i) ∧ wr.ownsRow w.heap.size 22 1 (.slice (some ⟨g, 0, none⟩) 27 c1) 27 (ksL k 27) ∧
        Below w.heap.size w wr ∧ Blk wr (w.heap.size + 1) 84 (outA k 0)) (fun c _ => 27 - (intOf c).toNat)
      case atStart => exact ⟨0, by omega, rfl, Blk.new _ _ _, hk.alloc _, hB.alloc hzr _, hb.alloc _⟩
      case round =>
        obtain ⟨i, hi, rfl, hg8, hk8, hB8, hb8⟩ := hrel
        have hz8 := hg8.lt
        by_cases hlt : i < 27
        · have e1 := (hk8.cellAt i (by omega)).trans (ksL_at k 27 i hlt)
          have e2 := hg8.cell
          have e3 := hg8.frozen
          have e4 := outA_at k i i hlt
          go_wp2_with fail
          refine ⟨⟨i + 1, by omega, by go_num, ?_, ?_, hB8.setCell (p := ⟨wo.heap.size, i, none⟩) hzr _, hb8.far (p := ⟨wo.heap.size, i, none⟩) (by have := hb.lt; simp; omega) _⟩, by simp [intOf]; omega⟩
          · rw [← outA_set]
            exact hg8.set_ i _
          · exact own_setCell hk8 (p := ⟨wo.heap.size, i, none⟩) (by simp; omega) _
        · obtain rfl : i = 27 := by omega
          go_wp2_with (first
            | (with_reducible refine wpList_load_blk rfl 84 (.tmp 8) rfl wo.heap.size rfl 84 (outA k 27) _ hg8 Try.underlying84 rfl (by rw [outA_size]; kernel_rfl) ?_)
            | (with_reducible refine wpList_store_own rfl 84 (.tmp 2) (.tmp 62) rfl (w.heap.size + 1) (outA k 27) rfl rfl 84 (outA k 0) hb8 (by rw [outA_size]; kernel_rfl) (by simp [outA_size]) (outA_one k 27) w.heap.size w hB8 (by omega) ?_))
          intro V hV hbV _ _
          go_wp2_with fail
          exact bodyPost_ret (v := .agg (outA k 27)) (results_cell_row Try.results65 _ _ (w.heap.size + 1) 84 (outA k 27) (0, 0) _ rfl hV Try.underlying84 rfl (by rw [outA_size]; kernel_rfl)) rfl ⟨rfl, hbV⟩

set_option maxHeartbeats 1000000 in
theorem renc_k (k : K4) (x : BitVec 64) (w : World) : Calls Try.prog 56 #[.agg #[q32 k.k0, q32 k.k1, q32 k.k2, q32 k.k3], q64 x] w fun e w' => e = .returned (q64 (Enc k x)) ∧ Below w.heap.size w w' := by
  go_enter Try.func56, Try.ntmps56
  go_wp2_with (first
    | (go_at_call 65; (with_reducible refine (rrounds_k _ _).mono ?_); rintro e w1 ⟨rfl, hb⟩)
    | (with_reducible refine wpList_store_own rfl 84 (.tmp 7) (.tmp 16) rfl w1.heap.size (outA k 27) rfl rfl 84 _ (Blk.new _ _ _) (by rw [outA_size]; kernel_rfl) (by simp [outA_size]) (outA_one k 27) w.heap.size w ?_ ?_ ?_))
  · exact (below_of_alloc hb).alloc (below_of_alloc hb).size _
  · exact (below_of_alloc hb).size
  · intro W hW hbW _ _
    have hc := hW.cell
    have hf := hW.frozen
    clear hW hb
    go_wp2_with fail
    go_loopw [5, 6, 8] (fun u v c wr => ∃ n i : Nat, i ≤ 27 ∧ c = .int .i64 i ∧ u = q32 (encN k i (split2 x)).1 ∧ v = q32 (encN k i (split2 x)).2 ∧ wr = W.drewN n) (fun _ _ c _ => 27 - (intOf c).toNat)
    case atStart => exact ⟨0, 0, by omega, rfl, rfl, rfl, rfl⟩
    case round =>
      obtain ⟨n, i, hi, rfl, rfl, rfl, rfl⟩ := hrel
      have H1 := Lib.hid (encN_one k i (split2 x))
      generalize hp : encN k i (split2 x) = p at *
      by_cases hlt : i < 27
      · have h1 := outA_full k i hlt
        clear hp
        go_wp2_with (first | (go_at_call 66; (with_reducible refine (right_8 _ _).mono ?_); rintro e w' ⟨rfl, n1, rfl⟩) | (go_at_call 67; (with_reducible refine (left_3 _ _).mono ?_); rintro e w' ⟨rfl, n2, rfl⟩))
        refine ⟨⟨_, i + 1, by omega, by go_num, by rw [H1.out]; rfl, by rw [H1.out]; rfl, rfl⟩, by simp [intOf]; omega⟩
      · obtain rfl : i = 27 := by omega
        have Hp := Lib.hid hp
        clear hp H1
        go_wp2
        go_ret
        refine ⟨?_, below_drewN hbW n⟩
        unfold Enc
        rw [Hp.out]
        rfl
end Go.Proofs.Ytnngknmmokajgaa
