/- Close: the program's and the document's. -/
import Derived.Test.YtnngknmmokajgaaShakeBase
import Derived.Test.YtnngknmmokajgaaShakeTaken
set_option linter.unusedSimpArgs false
set_option linter.unusedVariables false
namespace Go.Proofs.Ytnngknmmokajgaa
open Go.RowKit Go.Shelf

set_option maxHeartbeats 4000000 in
theorem shclose_k (p : Peer10) (q : P7) (A : Option Addr) (n c : Nat) (w : World) (hn : q.body.length = n) (hB : Bytes w A c q.body) (hlen : q.body.length ≤ 2000) : Calls Try.prog 26 #[.agg (peerC p), .agg #[.int .i64 q.kind, .int .i64 q.dir, .int .i64 q.train, q32 q.a, q32 q.b, .slice A n c, q64 q.mac]] w (RetP10 w (closeP p q) (taken10 p q 6)) := by
  unfold closeP
  have hcon := fun W hW => shtaken_k p q 6 A n c W hn hW hlen
  have hO : Own w _ [_, _, _] := Own.start3 w 26 30 26 (peerC p) #[.int .i64 q.kind, .int .i64 q.dir, .int .i64 q.train, q32 q.a, q32 q.b, .slice A n c, q64 q.mac] #[.int .i64 0, .int .i64 0, .int .u32 0, .int .u32 0, .int .u32 0, .int .u32 0, .int .i64 0, .int .u32 0, .int .u32 0, .int .u32 0, .int .u32 0, .int .u32 0, .int .u32 0, .bool false, .int .u32 0, .int .u32 0]
  by_cases h : taken10 p q 6 = 0
  · rw [if_pos h, h]
    rw [h] at hcon
    clear h
    go_enter Try.func26, Try.ntmps26
    go_wp2_with (first
      | ((with_reducible refine own_loadg0 hO ?_ _ rfl rfl _ Try.underlying26 rfl (peer_size p) ?_); (· first | rfl | (simp [Region.wanted, yielded]; done)))
      | ((with_reducible refine own_loadg1 hO ?_ _ rfl rfl _ Try.underlying30 rfl (by kernel_rfl) ?_); (· first | rfl | (simp [Region.wanted, yielded]; done)))
      | (go_at_call 43; (with_reducible refine (hcon _ (hB.below hO.below)).mono ?_); rintro e w1 ⟨rfl, hb1⟩; replace hO := hO.grow hb1)
      | (go_at_call 45; (with_reducible refine (shclosed_k p _).mono ?_); rintro e w2 ⟨rfl, hb2⟩; replace hO := hO.grow hb2)
      | (with_reducible refine own_row2 (peerC (closed10 p)) hO rfl _ _ rfl rfl rfl (peer_size (closed10 p)) (by kernel_rfl) (peer_cells (closed10 p)) ?_; intro w21 hO21 hz21 hk21; replace hO := hO21; clear hO21 hz21 hk21)
      | (with_reducible refine own_row2 (#[.int .i64 0, .int .i64 0, .int .u32 0, .int .u32 0, .int .u32 0, .int .u32 0, .int .i64 0, .int .u32 0, .int .u32 0, .int .u32 0, .int .u32 0, .int .u32 0, .int .u32 0, .bool false, .int .u32 0, .int .u32 0]) hO rfl _ _ rfl rfl rfl (by kernel_rfl) (by kernel_rfl) (by simp [Value.oneCell', q32, q64]) ?_; intro w22 hO22 hz22 hk22; replace hO := hO22; clear hO22 hz22 hk22))
    exact bodyPost_ret (results_ct Try.results26 _ _ _ _ _ _ rfl rfl hO.b2 Try.underlying26 rfl (peer_size _)) rfl ⟨rfl, hO.below⟩
  · rw [if_neg h]
    generalize taken10 p q 6 = tk at *
    have hb : (tk != 0) = true := by simpa using h
    clear h
    go_enter Try.func26, Try.ntmps26
    go_wp2_with (first
      | ((with_reducible refine own_loadg0 hO ?_ _ rfl rfl _ Try.underlying26 rfl (peer_size p) ?_); (· first | rfl | (simp [Region.wanted, yielded]; done)))
      | ((with_reducible refine own_loadg1 hO ?_ _ rfl rfl _ Try.underlying30 rfl (by kernel_rfl) ?_); (· first | rfl | (simp [Region.wanted, yielded]; done)))
      | (go_at_call 43; (with_reducible refine (hcon _ (hB.below hO.below)).mono ?_); rintro e w1 ⟨rfl, hb1⟩; replace hO := hO.grow hb1)
      | (go_at_call 45; (with_reducible refine (shclosed_k p _).mono ?_); rintro e w2 ⟨rfl, hb2⟩; replace hO := hO.grow hb2)
      | (with_reducible refine own_row2 (peerC (closed10 p)) hO rfl _ _ rfl rfl rfl (peer_size (closed10 p)) (by kernel_rfl) (peer_cells (closed10 p)) ?_; intro w21 hO21 hz21 hk21; replace hO := hO21; clear hO21 hz21 hk21)
      | (with_reducible refine own_row2 (#[.int .i64 0, .int .i64 0, .int .u32 0, .int .u32 0, .int .u32 0, .int .u32 0, .int .i64 0, .int .u32 0, .int .u32 0, .int .u32 0, .int .u32 0, .int .u32 0, .int .u32 0, .bool false, .int .u32 0, .int .u32 0]) hO rfl _ _ rfl rfl rfl (by kernel_rfl) (by kernel_rfl) (by simp [Value.oneCell', q32, q64]) ?_; intro w22 hO22 hz22 hk22; replace hO := hO22; clear hO22 hz22 hk22))
    exact bodyPost_ret (results_ct Try.results26 _ _ _ _ _ _ rfl rfl hO.b2 Try.underlying26 rfl (by kernel_rfl)) rfl ⟨by rw [← peer_none]; rfl, hO.below⟩
set_option maxHeartbeats 4000000 in
theorem rshclose_k (p : Peer10) (q : P7) (A : Option Addr) (n c : Nat) (w : World) (hn : q.body.length = n) (hB : Bytes w A c q.body) (hlen : q.body.length ≤ 2000) : Calls Try.prog 27 #[.agg (peerC p), .agg #[.int .i64 q.kind, .int .i64 q.dir, .int .i64 q.train, q32 q.a, q32 q.b, .slice A n c, q64 q.mac]] w (RetP10 w (closeP p q) (taken10 p q 6)) := by
  unfold closeP
  have hcon := fun W hW => shcame_k p q 6 A n c W hn hW hlen
  have hO : Own w _ [_, _, _] := Own.start3 w 26 30 26 (peerC p) #[.int .i64 q.kind, .int .i64 q.dir, .int .i64 q.train, q32 q.a, q32 q.b, .slice A n c, q64 q.mac] #[.int .i64 0, .int .i64 0, .int .u32 0, .int .u32 0, .int .u32 0, .int .u32 0, .int .i64 0, .int .u32 0, .int .u32 0, .int .u32 0, .int .u32 0, .int .u32 0, .int .u32 0, .bool false, .int .u32 0, .int .u32 0]
  by_cases h : taken10 p q 6 = 0
  · rw [if_pos h, h]
    rw [h] at hcon
    clear h
    go_enter Try.func27, Try.ntmps27
    go_wp2_with (first
      | ((with_reducible refine own_loadg0 hO ?_ _ rfl rfl _ Try.underlying26 rfl (peer_size p) ?_); (· first | rfl | (simp [Region.wanted, yielded]; done)))
      | ((with_reducible refine own_loadg1 hO ?_ _ rfl rfl _ Try.underlying30 rfl (by kernel_rfl) ?_); (· first | rfl | (simp [Region.wanted, yielded]; done)))
      | (go_at_call 44; (with_reducible refine (hcon _ (hB.below hO.below)).mono ?_); rintro e w1 ⟨rfl, hb1⟩; replace hO := hO.grow hb1)
      | (go_at_call 46; (with_reducible refine (rshclosed_k p _).mono ?_); rintro e w2 ⟨rfl, hb2⟩; replace hO := hO.grow hb2)
      | (with_reducible refine own_row2 (peerC (closed10 p)) hO rfl _ _ rfl rfl rfl (peer_size (closed10 p)) (by kernel_rfl) (peer_cells (closed10 p)) ?_; intro w21 hO21 hz21 hk21; replace hO := hO21; clear hO21 hz21 hk21)
      | (with_reducible refine own_row2 (#[.int .i64 0, .int .i64 0, .int .u32 0, .int .u32 0, .int .u32 0, .int .u32 0, .int .i64 0, .int .u32 0, .int .u32 0, .int .u32 0, .int .u32 0, .int .u32 0, .int .u32 0, .bool false, .int .u32 0, .int .u32 0]) hO rfl _ _ rfl rfl rfl (by kernel_rfl) (by kernel_rfl) (by simp [Value.oneCell', q32, q64]) ?_; intro w22 hO22 hz22 hk22; replace hO := hO22; clear hO22 hz22 hk22))
    exact bodyPost_ret (results_ct Try.results27 _ _ _ _ _ _ rfl rfl hO.b2 Try.underlying26 rfl (peer_size _)) rfl ⟨rfl, hO.below⟩
  · rw [if_neg h]
    generalize taken10 p q 6 = tk at *
    have hb : (tk != 0) = true := by simpa using h
    clear h
    go_enter Try.func27, Try.ntmps27
    go_wp2_with (first
      | ((with_reducible refine own_loadg0 hO ?_ _ rfl rfl _ Try.underlying26 rfl (peer_size p) ?_); (· first | rfl | (simp [Region.wanted, yielded]; done)))
      | ((with_reducible refine own_loadg1 hO ?_ _ rfl rfl _ Try.underlying30 rfl (by kernel_rfl) ?_); (· first | rfl | (simp [Region.wanted, yielded]; done)))
      | (go_at_call 44; (with_reducible refine (hcon _ (hB.below hO.below)).mono ?_); rintro e w1 ⟨rfl, hb1⟩; replace hO := hO.grow hb1)
      | (go_at_call 46; (with_reducible refine (rshclosed_k p _).mono ?_); rintro e w2 ⟨rfl, hb2⟩; replace hO := hO.grow hb2)
      | (with_reducible refine own_row2 (peerC (closed10 p)) hO rfl _ _ rfl rfl rfl (peer_size (closed10 p)) (by kernel_rfl) (peer_cells (closed10 p)) ?_; intro w21 hO21 hz21 hk21; replace hO := hO21; clear hO21 hz21 hk21)
      | (with_reducible refine own_row2 (#[.int .i64 0, .int .i64 0, .int .u32 0, .int .u32 0, .int .u32 0, .int .u32 0, .int .i64 0, .int .u32 0, .int .u32 0, .int .u32 0, .int .u32 0, .int .u32 0, .int .u32 0, .bool false, .int .u32 0, .int .u32 0]) hO rfl _ _ rfl rfl rfl (by kernel_rfl) (by kernel_rfl) (by simp [Value.oneCell', q32, q64]) ?_; intro w22 hO22 hz22 hk22; replace hO := hO22; clear hO22 hz22 hk22))
    exact bodyPost_ret (results_ct Try.results27 _ _ _ _ _ _ rfl rfl hO.b2 Try.underlying26 rfl (by kernel_rfl)) rfl ⟨by rw [← peer_none]; rfl, hO.below⟩
end Go.Proofs.Ytnngknmmokajgaa
