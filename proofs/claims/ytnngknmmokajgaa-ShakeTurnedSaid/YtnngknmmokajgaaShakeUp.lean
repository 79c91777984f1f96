/- An end whose connection is made. -/
import Derived.Test.YtnngknmmokajgaaShakeSmall
import Derived.Test.YtnngknmmokajgaaGround
import Derived.Test.YtnngknmmokajgaaShakeDefs
set_option linter.unusedSimpArgs false
set_option linter.unusedVariables false
namespace Go.Proofs.Ytnngknmmokajgaa
open Go.RowKit Go.Shelf

set_option maxHeartbeats 4000000 in
theorem shup_k (p : Peer10) (a b : BitVec 32) (w : World) : Calls Try.prog 37 #[.agg (peerC p), q32 a, q32 b] w fun e w' => e = .returned (.agg (peerC (up10 p a b))) ∧ Below w.heap.size w w' := by
  show Calls _ _ _ _ fun e w' => e = .returned (.agg #[.int .i64 p.side, .int .i64 p.train, q32 p.base.k0, q32 p.base.k1, q32 p.base.k2, q32 p.base.k3, .int .i64 2, q32 a, q32 b, q32 (Derive p.base a b).k0, q32 (Derive p.base a b).k1, q32 (Derive p.base a b).k2, q32 (Derive p.base a b).k3, .bool p.half, q32 p.a2, q32 p.b2]) ∧ Below w.heap.size w w'
  unfold peerC
  go_enter Try.func37, Try.ntmps37
  go_wp2_with (first
    | (go_at_call 55; (with_reducible refine (derive_k p.base a b _).mono ?_); rintro e w1 ⟨rfl, hb1⟩; go_loud (have hP : Blk w1 w.heap.size 26 #[.int .i64 p.side, .int .i64 p.train, q32 p.base.k0, q32 p.base.k1, q32 p.base.k2, q32 p.base.k3, .int .i64 2, q32 a, q32 b, q32 p.key.k0, q32 p.key.k1, q32 p.key.k2, q32 p.key.k3, .bool p.half, q32 p.a2, q32 p.b2] := Blk.below ((Blk.new w 26 #[.int .i64 p.side, .int .i64 p.train, q32 p.base.k0, q32 p.base.k1, q32 p.base.k2, q32 p.base.k3, .int .i64 2, q32 a, q32 b, q32 p.key.k0, q32 p.key.k1, q32 p.key.k2, q32 p.key.k3, .bool p.half, q32 p.a2, q32 p.b2]).alloc _) hb1 (by simp; omega); have hR : Blk w1 (w.heap.size + 1) 26 #[.int .i64 0, .int .i64 0, .int .u32 0, .int .u32 0, .int .u32 0, .int .u32 0, .int .i64 0, .int .u32 0, .int .u32 0, .int .u32 0, .int .u32 0, .int .u32 0, .int .u32 0, .bool false, .int .u32 0, .int .u32 0] := Blk.below (Blk.newAt _ 26 #[.int .i64 0, .int .i64 0, .int .u32 0, .int .u32 0, .int .u32 0, .int .u32 0, .int .i64 0, .int .u32 0, .int .u32 0, .int .u32 0, .int .u32 0, .int .u32 0, .int .u32 0, .bool false, .int .u32 0, .int .u32 0] (w.heap.size + 1) (by simp)) hb1 (by simp); have hbw := below_of_alloc (below_of_alloc hb1); have hcP := hP.cell; have hfP := hP.frozen))
    | (with_reducible refine wpList_store_own2 rfl 26 (.tmp 6) (.tmp 18) rfl (w.heap.size + 1) #[.int .i64 p.side, .int .i64 p.train, q32 p.base.k0, q32 p.base.k1, q32 p.base.k2, q32 p.base.k3, .int .i64 2, q32 a, q32 b, q32 (Derive p.base a b).k0, q32 (Derive p.base a b).k1, q32 (Derive p.base a b).k2, q32 (Derive p.base a b).k3, .bool p.half, q32 p.a2, q32 p.b2] rfl rfl 26 _ ((((hR.far (p := ⟨w.heap.size, 9, none⟩) (by simp) _).far (p := ⟨w.heap.size, 10, none⟩) (by simp) _).far (p := ⟨w.heap.size, 11, none⟩) (by simp) _).far (p := ⟨w.heap.size, 12, none⟩) (by simp) _) (by kernel_rfl) rfl (by simp [Value.oneCell', q32]) w.heap.size w ((((hbw.setCell (p := ⟨w.heap.size, 9, none⟩) (Nat.le_refl _) _).setCell (p := ⟨w.heap.size, 10, none⟩) (Nat.le_refl _) _).setCell (p := ⟨w.heap.size, 11, none⟩) (Nat.le_refl _) _).setCell (p := ⟨w.heap.size, 12, none⟩) (Nat.le_refl _) _) (by omega) ?_; intro w7 hg7 hb07 hz7 hk7))
  have hc7 := hg7.cell
  refine bodyPost_ret (v := .agg #[.int .i64 p.side, .int .i64 p.train, q32 p.base.k0, q32 p.base.k1, q32 p.base.k2, q32 p.base.k3, .int .i64 2, q32 a, q32 b, q32 (Derive p.base a b).k0, q32 (Derive p.base a b).k1, q32 (Derive p.base a b).k2, q32 (Derive p.base a b).k3, .bool p.half, q32 p.a2, q32 p.b2]) (by simp [results, Try.results37, go_sem, hc7]) rfl ⟨rfl, hb07⟩
end Go.Proofs.Ytnngknmmokajgaa
