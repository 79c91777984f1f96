/- The cipher's walks: rotations, the keys of the rounds, the blocks there and back. -/
import Derived.Test.YtnngknmmokajgaaChecked
import Derived.Test.YtnngknmmokajgaaGround
import Derived.Deep.QuietTactic
import Derived.BigQuiet
import Derived.Lib.Hide
namespace Go.Proofs.Ytnngknmmokajgaa
open Go.RowKit

theorem k_m8 : bits .and .u64 (IntKind.u64.wrap (-8)) 31 = 24 := by decide
theorem k_m3 : bits .and .u64 (IntKind.u64.wrap (-3)) 31 = 29 := by decide
theorem k_3 : bits .and .u64 3 31 = 3 := by decide
theorem k_8 : bits .and .u64 8 31 = 8 := by decide
theorem rot_m8 (x : BitVec 32) (w : World) : Calls Try.prog 71 #[q32 x, .int .i64 (-8)] w fun e w' => e = .returned (q32 (x.rotateLeft 24)) ∧ w = w' := by
  have h := k_m8
  go_enter Try.func71, Try.ntmps71
  go_wp2
  go_ret
  exact ⟨by rw [← rot24]; rfl, rfl⟩
theorem rot_m3 (x : BitVec 32) (w : World) : Calls Try.prog 71 #[q32 x, .int .i64 (-3)] w fun e w' => e = .returned (q32 (x.rotateLeft 29)) ∧ w = w' := by
  have h := k_m3
  go_enter Try.func71, Try.ntmps71
  go_wp2
  go_ret
  exact ⟨by rw [← rot29]; rfl, rfl⟩
theorem rot_3 (x : BitVec 32) (w : World) : Calls Try.prog 71 #[q32 x, .int .i64 3] w fun e w' => e = .returned (q32 (x.rotateLeft 3)) ∧ w = w' := by
  have h := k_3
  go_enter Try.func71, Try.ntmps71
  go_wp2
  go_ret
  exact ⟨by rw [← rot3]; rfl, rfl⟩
theorem rot_8 (x : BitVec 32) (w : World) : Calls Try.prog 71 #[q32 x, .int .i64 8] w fun e w' => e = .returned (q32 (x.rotateLeft 8)) ∧ w = w' := by
  have h := k_8
  go_enter Try.func71, Try.ntmps71
  go_wp2
  go_ret
  exact ⟨by rw [← rot8]; rfl, rfl⟩

/-- A key as a value. -/
def keyV (k : K4) : Value := .agg #[q32 k.k0, q32 k.k1, q32 k.k2, q32 k.k3]
/-- The row of the keys of the rounds, as far as it is filled. -/
def outA (k : K4) (i : Nat) : Array Value := ((List.range 27).map fun j => if j < i then q32 (rk k j) else q32 0).toArray
/-- The three words of the schedule, as the program keeps them. -/
def lA (k : K4) (i : Nat) : Array Value := ((List.range 3).map fun j => q32 (lk k (i + (j + 3 - i % 3) % 3))).toArray
theorem outA_size (k : K4) (i : Nat) : (outA k i).size = 27 := by simp [outA]
theorem outA_set (k : K4) (i : Nat) : (outA k i).setIfInBounds i (q32 (rk k i)) = outA k (i + 1) := by
  apply Array.ext
  · simp [outA]
  · intro j h1 h2
    simp only [outA, List.size_toArray, List.length_map, List.length_range] at h2
    simp only [outA, List.getElem_toArray, List.getElem_map, List.getElem_range]
    by_cases h : i = j
    · subst h; simp
    · by_cases hj : j < i
      · simp [h, hj]; omega
      · simp [h, hj]; omega
theorem outA_one (k : K4) (i : Nat) : (outA k i).all (·.oneCell') = true := by
  rw [Array.all_eq_true_iff_forall_mem]
  intro v hv
  simp only [outA, List.mem_toArray, List.mem_map] at hv
  obtain ⟨j, _, rfl⟩ := hv
  split <;> rfl
theorem outA_at (k : K4) (i j : Nat) (hj : j < 27) : (outA k i)[j]? = some (if j < i then q32 (rk k j) else q32 0) := by
  simp [outA, hj]
theorem outA_full (k : K4) (j : Nat) (hj : j < 27) : (outA k 27)[j]? = some (q32 (rk k j)) := by
  rw [outA_at k 27 j hj, if_pos hj]
theorem lA_at (k : K4) (i : Nat) : (lA k i)[i % 3]? = some (q32 (lk k i)) := by
  have h : i % 3 < 3 := Nat.mod_lt _ (by decide)
  have e : (i % 3 + 3 - i % 3) % 3 = 0 := by omega
  simp [lA, h]
theorem lA_set (k : K4) (i : Nat) : (lA k i).setIfInBounds (i % 3) (q32 (lk k (i + 3))) = lA k (i + 1) := by
  apply Array.ext
  · simp [lA]
  · intro j h1 h2
    have hj : j < 3 := by simpa [lA] using h2
    by_cases h : i % 3 = j
    · subst h
      have e : i + 3 = i + 1 + (i % 3 + 3 - (i + 1) % 3) % 3 := by omega
      simp only [lA, List.setIfInBounds_toArray, List.getElem_toArray, List.getElem_set_self, List.getElem_map, List.getElem_range]
      rw [← e]
    · have e : i + (j + 3 - i % 3) % 3 = i + 1 + (j + 3 - (i + 1) % 3) % 3 := by omega
      simp only [lA, List.setIfInBounds_toArray, List.getElem_toArray, List.getElem_set_ne h, List.getElem_map, List.getElem_range]
      rw [e]
set_option maxHeartbeats 1000000 in
theorem rounds_k (k : K4) (w : World) : Calls Try.prog 70 #[.agg #[q32 k.k0, q32 k.k1, q32 k.k2, q32 k.k3]] w fun e w' => e = .returned (.agg (outA k 27)) ∧ Below w.heap.size w w' := by
  go_enter Try.func70, Try.ntmps70
  go_wp2
  go_loopw [4, 16] (fun r c wr => ∃ i n : Nat, i ≤ 27 ∧ c = .int .i64 i ∧ r = q32 (rk k i) ∧ wr = ((((w.alloc (.cells #[q32 k.k0, q32 k.k1, q32 k.k2, q32 k.k3] 24)).alloc (.cells (outA k 0) 84)).alloc (.cells (outA k i) 84)).alloc (.cells (lA k i) 90)).drewN n) (fun _ c _ => 27 - (intOf c).toNat)
  case atStart => exact ⟨0, 0, by omega, rfl, rfl, rfl⟩
  case round =>
    obtain ⟨i, n, hi, rfl, rfl, rfl⟩ := hrel
    by_cases hlt : i < 27
    · have h1 := outA_at k i i hlt
      have h2 := lA_at k i
      have h3 := outA_set k i
      have H3 := Lib.hid h3
      have H4 := Lib.hid (lA_set k i)
      clear h3
      go_wp2_with (go_at_call 71; (with_reducible refine (rot_m8 _ _).mono ?_); rintro e w' ⟨rfl, rfl⟩)
      go_quiet ((go_at_call 71; exact Calls.quiet_of_same ((rot_3 _ _).mono fun _ _ ⟨a, b⟩ => ⟨a, b.symm⟩)))
      go_wp2
      refine ⟨⟨i + 1, n + nq, by omega, by go_num, rfl, ?_⟩, by simp [intOf]; omega⟩
      rw [← H3.out, ← H4.out, set_drewN, set_old _ _ _ _ _ (by simp), set_new _ _ _ _ _ _ (by simp), set_drewN, set_new _ _ _ _ _ _ (by simp), World.drewN_drewN]
      rfl
    · obtain rfl : i = 27 := by omega
      go_wp2_with (first
        | (with_reducible refine wpList_load_row rfl 84 (.tmp 3) rfl (w.heap.size + 1 + 1) rfl 84 (outA k 27) (0, 0) _ ?_ Try.underlying84 rfl (by rw [outA_size]; kernel_rfl) ?_)
        | (with_reducible refine wpList_store_row rfl 84 (.tmp 2) (.tmp 43) rfl (w.heap.size + 1) (outA k 27) rfl rfl 84 (outA k 0) ?_ (by rw [outA_size]; kernel_rfl) (by rw [outA_size, outA_size]) (outA_one k 27) ?_))
      · exact (((Blk.newAt _ _ _ _ (by simp)).alloc _).drewN n)
      · exact ((((Blk.newAt _ _ _ _ (by simp)).alloc _).alloc _).drewN n)
      · refine bodyPost_ret (v := .agg (outA k 27)) (results_cell_row Try.results70 _ _ (w.heap.size + 1) 84 (outA k 27) (0, 0) _ rfl ?_ Try.underlying84 rfl (by rw [outA_size]; kernel_rfl)) rfl ⟨rfl, ?_⟩
        · exact Blk.row (old := outA k 0) ((((Blk.newAt _ _ _ _ (by simp)).alloc _).alloc _).drewN n) _
        · exact below_row (below_drewN ((((((Below.refl _ _).alloc (Nat.le_refl _) _).alloc (by simp <;> omega) _).alloc (by simp <;> omega) _).alloc (by simp <;> omega) _)) n) (by omega) _
theorem rounds_any (a b c d : BitVec 32) (w : World) : Calls Try.prog 70 #[.agg #[q32 a, q32 b, q32 c, q32 d]] w fun e w' => e = .returned (.agg (outA ⟨a, b, c, d⟩ 27)) ∧ Below w.heap.size w w' := rounds_k ⟨a, b, c, d⟩ w

theorem notAgg_u32 (w : World) : (isAgg 22).run Try.prog w = .ok false w := by kernel_rfl
/-- Two rows of keys of the rounds, held against each other. -/
def sameKeys (k k' : K4) : Bool := (List.range 27).all fun i => rk k i == rk k' i
theorem sameKeys_self (k : K4) : sameKeys k k = true := by unfold sameKeys; rw [List.all_eq_true]; intro i _; simp
theorem sameKeys_first (k : K4) (n : BitVec 32) : sameKeys k ⟨k.k0, k.k1, k.k2, n⟩ = (n == k.k3) := by
  rw [Bool.eq_iff_iff]
  unfold sameKeys
  simp only [List.all_eq_true, List.mem_range, beq_iff_eq]
  exact first_eq k n
theorem run_eql_keys (k k' : K4) (w : World) : (binOp .eql 84 (.agg (outA k 27)) (.agg (outA k' 27))).run Try.prog w = .ok (.bool (sameKeys k k')) w := by
  obtain ⟨i, hi⟩ := info_of_underlying Try.underlying22
  exact run_eql_row _ _ Try.underlying84 hi (by kernel_rfl) notAgg_u32 _ _ (fun i => rk k i == rk k' i) w
    (fun i hi => ⟨outA_full k i hi, outA_full k' i hi, q32_equalIn 22 _ _ w 9998 .u32 Try.underlying22⟩)
theorem run_key (k : K4) (i : Nat) (hi : i < 27) (w : World) : (Instr.index 84 (.agg (outA k 27)) (.int .i64 i)).run Try.prog w = .ok (q32 (rk k i)) w :=
  run_index_row 84 22 27 _ _ _ _ Try.underlying84 notAgg_u32 (by kernel_rfl) (by omega) (by omega) (outA_full k i hi) w
theorem encN_one (k : K4) (i : Nat) (p : BitVec 32 × BitVec 32) : encN k (i + 1) p = enc1 (rk k i) (encN k i p) := rfl
set_option maxHeartbeats 1000000 in
theorem enc_k (k : K4) (x : BitVec 64) (w : World) : Calls Try.prog 62 #[.agg #[q32 k.k0, q32 k.k1, q32 k.k2, q32 k.k3], q64 x] w fun e w' => e = .returned (q64 (Enc k x)) ∧ Below w.heap.size w w' := by
  go_enter Try.func62, Try.ntmps62
  go_wp2_with (go_at_call 70; (with_reducible refine (rounds_k _ _).mono ?_); rintro e w' ⟨rfl, hb⟩)
  go_loop [5, 6, 16] (fun u v c => ∃ i : Nat, i ≤ 27 ∧ c = .int .i64 i ∧ u = q32 (encN k i (split2 x)).1 ∧ v = q32 (encN k i (split2 x)).2) (fun _ _ c => 27 - (intOf c).toNat)
  case atStart => exact ⟨0, by omega, rfl, rfl, rfl⟩
  case round =>
    obtain ⟨i, hi, rfl, rfl, rfl⟩ := hrel
    have H1 := Lib.hid (encN_one k i (split2 x))
    generalize hp : encN k i (split2 x) = p at *
    by_cases hlt : i < 27
    · have h1 := run_key k i hlt
      clear hp
      go_wp2_with (first | (go_at_call 71; (with_reducible refine (rot_m8 _ _).mono ?_); rintro e w' ⟨rfl, rfl⟩) | (go_at_call 71; (with_reducible refine (rot_3 _ _).mono ?_); rintro e w' ⟨rfl, rfl⟩))
      go_round
      case rel => exact ⟨i + 1, by omega, by go_num, by rw [H1.out]; rfl, by rw [H1.out]; rfl⟩
      case measure => simp [intOf]; omega
    · obtain rfl : i = 27 := by omega
      have Hp := Lib.hid hp
      clear hp H1
      go_wp2
      go_ret
      refine ⟨?_, below_of_alloc hb⟩
      unfold Enc
      rw [Hp.out]
      rfl
theorem enc_any (a b c d : BitVec 32) (x : BitVec 64) (w : World) : Calls Try.prog 62 #[.agg #[q32 a, q32 b, q32 c, q32 d], q64 x] w fun e w' => e = .returned (q64 (Enc ⟨a, b, c, d⟩ x)) ∧ Below w.heap.size w w' := enc_k ⟨a, b, c, d⟩ x w

end Go.Proofs.Ytnngknmmokajgaa
