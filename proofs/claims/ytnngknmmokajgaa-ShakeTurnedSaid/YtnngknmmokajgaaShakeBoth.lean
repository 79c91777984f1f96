/- The handshake of the laws: two ends whose connection is made. -/
import Derived.Test.YtnngknmmokajgaaShakeAsk
import Derived.Test.YtnngknmmokajgaaShakeAnswer
import Derived.Test.YtnngknmmokajgaaShakeConfirm
import Derived.Test.YtnngknmmokajgaaShakeDone
import Derived.Test.YtnngknmmokajgaaGround
set_option linter.unusedSimpArgs false
set_option linter.unusedVariables false
namespace Go.Proofs.Ytnngknmmokajgaa
open Go.RowKit Go.Shelf

def ask7 (train : Int) (a : BitVec 32) : P7 := ⟨1, 0, train, a, 0, [], 0⟩
def ans7 (base : K4) (train : Int) (a b : BitVec 32) : P7 := sealed7 base ⟨2, 1, train, a, b, [], 0⟩
def con7 (base : K4) (train : Int) (a b : BitVec 32) : P7 := sealed7 base ⟨3, 0, train, a, b, [], 0⟩
theorem bytes_any {w : World} {A : Option Addr} {c : Nat} (h : Bytes w A c []) (W : World) : Bytes W A c [] := ⟨fun h0 => absurd h0 (by simp [cellsOf]), h.cap, h.max⟩
theorem ret_nil {w w' : World} {e : Ending} {p : Peer10} {q : P7} {err : Int} (hq : q.body = []) (h : Ret10 w p q err e w') : ∃ A c, e = .returned (.tuple #[.agg (peerC p), .agg (pduC q A 0 c), .int .i64 err]) ∧ (∀ W, Bytes W A c []) ∧ Below w.heap.size w w' := by
  obtain ⟨A, c, e, hB, hb⟩ := h
  rw [hq] at e hB
  exact ⟨A, c, e, fun W => bytes_any hB W, hb⟩
set_option maxHeartbeats 8000000 in
theorem both_k (base : K4) (train : Int) (a b : BitVec 32) (w : World) (h0 : 0 ≤ train) (h1 : train < 16777216) : Calls Try.prog 19 #[.agg #[q32 base.k0, q32 base.k1, q32 base.k2, q32 base.k3], .int .i64 train, q32 a, q32 b] w fun e w' => e = .returned (.tuple #[.agg (peerC (endX base train a b)), .agg (peerC (endY base train a b)), .bool true]) ∧ Below w.heap.size w w' := by
  have hAsk : ∀ W, Calls Try.prog 10 #[.agg #[.int .i64 0, .int .i64 train, q32 base.k0, q32 base.k1, q32 base.k2, q32 base.k3, .int .i64 0, .int .u32 0, .int .u32 0, .int .u32 0, .int .u32 0, .int .u32 0, .int .u32 0, .bool false, .int .u32 0, .int .u32 0], q32 a] W fun e w' => ∃ A c, e = .returned (.tuple #[.agg (peerC (asked10 train base a)), .agg (pduC (ask7 train a) A 0 c), .int .i64 0]) ∧ (∀ W, Bytes W A c []) ∧ Below W.heap.size W w' := fun W => by
    obtain ⟨e1, e2, e3⟩ := ask_start base train a h0 h1
    have := shask_k (start10 0 train base) a W
    rw [e1, e2, e3] at this
    exact this.mono fun e w' h => ret_nil rfl h
  have hAns : ∀ W A c, (∀ W, Bytes W A c []) → Calls Try.prog 13 #[.agg #[.int .i64 1, .int .i64 train, q32 base.k0, q32 base.k1, q32 base.k2, q32 base.k3, .int .i64 0, .int .u32 0, .int .u32 0, .int .u32 0, .int .u32 0, .int .u32 0, .int .u32 0, .bool false, .int .u32 0, .int .u32 0], .agg (pduC (ask7 train a) A 0 c), q32 b] W fun e w' => ∃ A c, e = .returned (.tuple #[.agg (peerC (halfY train base a b)), .agg (pduC (ans7 base train a b) A 0 c), .int .i64 0]) ∧ (∀ W, Bytes W A c []) ∧ Below W.heap.size W w' := fun W A c hN => by
    obtain ⟨e1, e2, e3⟩ := answer_start base train a b h0 h1
    have := shanswer_k (start10 1 train base) (ask7 train a) b A 0 c W rfl (hN W) (by show (0 : Nat) ≤ 2000; decide)
    unfold ask7 at this
    rw [e1, e2, e3] at this
    exact this.mono fun e w' h => ret_nil rfl h
  have hCon : ∀ W A c, (∀ W, Bytes W A c []) → Calls Try.prog 15 #[.agg (peerC (asked10 train base a)), .agg (pduC (ans7 base train a b) A 0 c)] W fun e w' => ∃ A c, e = .returned (.tuple #[.agg (peerC (endX base train a b)), .agg (pduC (con7 base train a b) A 0 c), .int .i64 0]) ∧ (∀ W, Bytes W A c []) ∧ Below W.heap.size W w' := fun W A c hN => by
    obtain ⟨e1, e2, e3⟩ := confirm_asked base train a b h0 h1
    have := shconfirm_k (asked10 train base a) (ans7 base train a b) A 0 c W rfl (hN W) (by show (0 : Nat) ≤ 2000; decide)
    unfold ans7 at this
    rw [e1, e2, e3] at this
    exact this.mono fun e w' h => ret_nil rfl h
  have hDone : ∀ W A c, (∀ W, Bytes W A c []) → Calls Try.prog 17 #[.agg (peerC (halfY train base a b)), .agg (pduC (con7 base train a b) A 0 c)] W fun e w' => e = .returned (.tuple #[.agg (peerC (endY base train a b)), .int .i64 0]) ∧ Below W.heap.size W w' := fun W A c hN => by
    obtain ⟨e1, e2⟩ := done_half base train a b h0 h1
    have := shdone_k (halfY train base a b) (con7 base train a b) A 0 c W rfl (hN W) (by show (0 : Nat) ≤ 2000; decide)
    unfold con7 at this
    rw [e1, e2] at this
    exact this
  clear h0 h1
  have hO : Own w _ [_, _, _, _, _] := Own.start5 w 24 26 26 26 26 #[q32 base.k0, q32 base.k1, q32 base.k2, q32 base.k3] #[.int .i64 0, .int .i64 0, .int .u32 0, .int .u32 0, .int .u32 0, .int .u32 0, .int .i64 0, .int .u32 0, .int .u32 0, .int .u32 0, .int .u32 0, .int .u32 0, .int .u32 0, .bool false, .int .u32 0, .int .u32 0] #[.int .i64 0, .int .i64 0, .int .u32 0, .int .u32 0, .int .u32 0, .int .u32 0, .int .i64 0, .int .u32 0, .int .u32 0, .int .u32 0, .int .u32 0, .int .u32 0, .int .u32 0, .bool false, .int .u32 0, .int .u32 0] #[.int .i64 0, .int .i64 train, q32 base.k0, q32 base.k1, q32 base.k2, q32 base.k3, .int .i64 0, .int .u32 0, .int .u32 0, .int .u32 0, .int .u32 0, .int .u32 0, .int .u32 0, .bool false, .int .u32 0, .int .u32 0] #[.int .i64 1, .int .i64 train, q32 base.k0, q32 base.k1, q32 base.k2, q32 base.k3, .int .i64 0, .int .u32 0, .int .u32 0, .int .u32 0, .int .u32 0, .int .u32 0, .int .u32 0, .bool false, .int .u32 0, .int .u32 0]
  go_enter Try.func19, Try.ntmps19
  go_wp2_with (first
    | (go_at_call 10; (with_reducible refine (hAsk _).mono ?_); rintro e w1 ⟨A1, c1, rfl, hN1, hb1⟩; replace hO := hO.grow hb1)
    | (with_reducible refine own_row3 (peerC (asked10 train base a)) (hO.new5 30 #[.int .i64 0, .int .i64 0, .int .i64 0, .int .u32 0, .int .u32 0, .slice none 0 0, .int .u64 0]) rfl _ _ rfl rfl rfl (peer_size (asked10 train base a)) (by kernel_rfl) (peer_cells (asked10 train base a)) ?_; intro w11 hO11 hz11 hk11; replace hO := hO11; clear hO11 hz11 hk11)
    | (with_reducible refine own_row5 (pduC (ask7 train a) A1 0 c1) hO rfl _ _ rfl rfl rfl (pdu_size (ask7 train a) A1 0 c1) (by kernel_rfl) (pdu_cells (ask7 train a) A1 0 c1) ?_; intro w12 hO12 hz12 hk12; replace hO := hO12; clear hO12 hz12 hk12)
    | ((with_reducible refine own_loadg4 hO ?_ _ rfl rfl _ Try.underlying26 rfl (by kernel_rfl) ?_); (· first | rfl | (simp [Region.wanted, yielded]; done)))
    | ((with_reducible refine own_loadg5 hO ?_ _ rfl rfl _ Try.underlying30 rfl (pdu_size _ _ _ _) ?_); (· first | rfl | (simp [Region.wanted, yielded]; done)))
    | (go_at_call 13; (with_reducible refine (hAns _ A1 c1 hN1).mono ?_); rintro e w2 ⟨A2, c2, rfl, hN2, hb2⟩; replace hO := hO.grow hb2)
    | (with_reducible refine own_row4 (peerC (halfY train base a b)) (hO.new6 30 #[.int .i64 0, .int .i64 0, .int .i64 0, .int .u32 0, .int .u32 0, .slice none 0 0, .int .u64 0]) rfl _ _ rfl rfl rfl (peer_size (halfY train base a b)) (by kernel_rfl) (peer_cells (halfY train base a b)) ?_; intro w21 hO21 hz21 hk21; replace hO := hO21; clear hO21 hz21 hk21)
    | (with_reducible refine own_row6 (pduC (ans7 base train a b) A2 0 c2) hO rfl _ _ rfl rfl rfl (pdu_size (ans7 base train a b) A2 0 c2) (by kernel_rfl) (pdu_cells (ans7 base train a b) A2 0 c2) ?_; intro w22 hO22 hz22 hk22; replace hO := hO22; clear hO22 hz22 hk22)
    | ((with_reducible refine own_loadg3 hO ?_ _ rfl rfl _ Try.underlying26 rfl (peer_size _) ?_); (· first | rfl | (simp [Region.wanted, yielded]; done)))
    | ((with_reducible refine own_loadg6 hO ?_ _ rfl rfl _ Try.underlying30 rfl (pdu_size _ _ _ _) ?_); (· first | rfl | (simp [Region.wanted, yielded]; done)))
    | (go_at_call 15; (with_reducible refine (hCon _ A2 c2 hN2).mono ?_); rintro e w3 ⟨A3, c3, rfl, hN3, hb3⟩; replace hO := hO.grow hb3)
    | (with_reducible refine own_row3 (peerC (endX base train a b)) (hO.new7 30 #[.int .i64 0, .int .i64 0, .int .i64 0, .int .u32 0, .int .u32 0, .slice none 0 0, .int .u64 0]) rfl _ _ rfl rfl rfl (peer_size (endX base train a b)) (by kernel_rfl) (peer_cells (endX base train a b)) ?_; intro w31 hO31 hz31 hk31; replace hO := hO31; clear hO31 hz31 hk31)
    | (with_reducible refine own_row7 (pduC (con7 base train a b) A3 0 c3) hO rfl _ _ rfl rfl rfl (pdu_size (con7 base train a b) A3 0 c3) (by kernel_rfl) (pdu_cells (con7 base train a b) A3 0 c3) ?_; intro w32 hO32 hz32 hk32; replace hO := hO32; clear hO32 hz32 hk32)
    | ((with_reducible refine own_loadg4 hO ?_ _ rfl rfl _ Try.underlying26 rfl (peer_size _) ?_); (· first | rfl | (simp [Region.wanted, yielded]; done)))
    | ((with_reducible refine own_loadg7 hO ?_ _ rfl rfl _ Try.underlying30 rfl (pdu_size _ _ _ _) ?_); (· first | rfl | (simp [Region.wanted, yielded]; done)))
    | (go_at_call 17; (with_reducible refine (hDone _ A3 c3 hN3).mono ?_); rintro e w4 ⟨rfl, hb4⟩; replace hO := hO.grow hb4)
    | (with_reducible refine own_row4 (peerC (endY base train a b)) hO rfl _ _ rfl rfl rfl (peer_size (endY base train a b)) (by kernel_rfl) (peer_cells (endY base train a b)) ?_; intro w41 hO41 hz41 hk41; replace hO := hO41; clear hO41 hz41 hk41))
  apply wp_region_lexs [(w.heap.size + 1, none), (w.heap.size + 1 + 1, none)]
  case hFl =>
    intro u
    simp only [List.map, fill, Act.put, List.setIfInBounds_toArray, List.set_cons_zero, List.set_cons_succ, Nat.reduceAdd, Nat.zero_add]
    rfl
  case hm => kernel_rfl
  case hB => kernel_rfl
  case hap => kernel_rfl
  refine LexS.is (c := .agg (peerC (endX base train a b))) ?_ ?_
  · (intro u w' hk hd
     have hbk := hk.blk hO.b3 (by intro o h; simp at h; try omega)
     refine lookedT_want (by first | rfl | simp [Region.wanted, yielded]) ?_
     intro K hK
     exact wp_load_row 26 _ rfl _ rfl 26 _ (0, 0) _ hbk Try.underlying26 rfl (by kernel_rfl) (hK _ _ (Stp.refl _ _) rfl))
  refine LexS.is (c := .agg (peerC (endY base train a b))) ?_ ?_
  · (intro u w' hk hd
     have hbk := hk.blk hO.b4 (by intro o h; simp at h; try omega)
     refine lookedT_want (by first | rfl | simp [Region.wanted, yielded]) ?_
     intro K hK
     exact wp_load_row 26 _ rfl _ rfl 26 _ (0, 0) _ hbk Try.underlying26 rfl (by kernel_rfl) (hK _ _ (Stp.refl _ _) rfl))
  iterate 14 (
    apply LexS.is
    · (intro u w' hk hd
       simp [Waited, Region.binds, Is] at hd
       refine lookedT_want (by first | rfl | simp [Region.wanted, yielded, hd]) ?_
       intro K hK
       skip
       go_wp2_with (fail)
       try simp only [hd] at hK
       refine hK _ _ ?_ rfl
       first | exact Stp.refl _ _ | exact Stp.of_below hb3 _)
    )
  refine LexS.row (w.heap.size + 1) 26 _ (peerC (endX base train a b)) (by simp) hO.b1 (by rfl) 26 _ _ rfl (by kernel_rfl) (peer_cells (endX base train a b)) ?_ ?_
  · (intro u w' hk hd
     simp [Waited, Region.binds, Is] at hd
     exact ⟨by first | rfl | simp [Region.wanted, yielded, hd], rfl, by simp [Act.eval, hd]⟩)
  refine LexS.row (w.heap.size + 1 + 1) 26 _ (peerC (endY base train a b)) (by simp) hO.b2 (by rfl) 26 _ _ rfl (by kernel_rfl) (peer_cells (endY base train a b)) ?_ ?_
  · (intro u w' hk hd
     simp [Waited, Region.binds, Is] at hd
     exact ⟨by first | rfl | simp [Region.wanted, yielded, hd], rfl, by simp [Act.eval, hd]⟩)
  apply LexS.is
  · (intro u w' hk hd
     simp [Waited, Region.binds, Is] at hd
     refine lookedT_want (by first | rfl | simp [Region.wanted, yielded, hd]) ?_
     intro K hK
     skip
     go_wp2_with (fail)
     try simp only [hd] at hK
     refine hK _ _ ?_ rfl
     first | exact Stp.refl _ _ | exact Stp.of_below hb3 _)
  refine LexS.nil (by simp [W2.fit, Apart2]) ?_
  intro u w7 hk hd
  simp only [List.nil_append, List.cons_append] at hd
  have h5 : Blk w7 (w.heap.size + 1) 26 (peerC (endX base train a b)) := hd 16 _ rfl
  have h6 : Blk w7 (w.heap.size + 1 + 1) 26 (peerC (endY base train a b)) := hd 17 _ rfl
  have h7 := hd 18 _ rfl
  simp only [Is] at h7
  clear hd
  go_wp2_with fail
  exact bodyPost_ret (results_cct Try.results19 _ _ _ _ _ _ _ _ _ rfl rfl h7 h5 h6 Try.underlying26 rfl (peer_size _) Try.underlying26 rfl (peer_size _)) rfl ⟨rfl, hO.below.trans (hk.below hO.below.size (by intro k o h; simp at h; omega))⟩
end Go.Proofs.Ytnngknmmokajgaa
