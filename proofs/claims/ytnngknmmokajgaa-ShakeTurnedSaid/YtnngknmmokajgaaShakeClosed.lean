/- The functions that tell a closed end. -/
import Derived.Test.YtnngknmmokajgaaShakeSmall
import Derived.Test.YtnngknmmokajgaaShakeDefs
set_option linter.unusedSimpArgs false
set_option linter.unusedVariables false
namespace Go.Proofs.Ytnngknmmokajgaa
open Go.RowKit Go.Shelf

set_option maxHeartbeats 4000000 in
theorem shclosed_k (p : Peer10) (w : World) : Calls Try.prog 45 #[.agg (peerC p)] w fun e w' => e = .returned (.agg (peerC (closed10 p))) ∧ Below w.heap.size w w' := by
  show Calls _ _ _ _ fun e w' => e = .returned (.agg #[.int .i64 p.side, .int .i64 p.train, q32 p.base.k0, q32 p.base.k1, q32 p.base.k2, q32 p.base.k3, .int .i64 0, .int .u32 0, .int .u32 0, .int .u32 0, .int .u32 0, .int .u32 0, .int .u32 0, .bool p.half, q32 p.a2, q32 p.b2]) ∧ Below w.heap.size w w'
  unfold peerC
  go_enter Try.func45, Try.ntmps45
  go_wp2_with fail
  have hg := Blk.newAt (w.alloc (.cells #[.int .i64 p.side, .int .i64 p.train, q32 p.base.k0, q32 p.base.k1, q32 p.base.k2, q32 p.base.k3, .int .i64 0, .int .u32 0, .int .u32 0, .int .u32 0, .int .u32 0, .int .u32 0, .int .u32 0, .bool p.half, q32 p.a2, q32 p.b2] 26)) 26 #[.int .i64 p.side, .int .i64 p.train, q32 p.base.k0, q32 p.base.k1, q32 p.base.k2, q32 p.base.k3, .int .i64 0, .int .u32 0, .int .u32 0, .int .u32 0, .int .u32 0, .int .u32 0, .int .u32 0, .bool p.half, q32 p.a2, q32 p.b2] (w.heap.size + 1) (by simp)
  have hc := hg.cell
  refine bodyPost_ret (v := .agg #[.int .i64 p.side, .int .i64 p.train, q32 p.base.k0, q32 p.base.k1, q32 p.base.k2, q32 p.base.k3, .int .i64 0, .int .u32 0, .int .u32 0, .int .u32 0, .int .u32 0, .int .u32 0, .int .u32 0, .bool p.half, q32 p.a2, q32 p.b2]) (by simp [results, Try.results45, go_sem, hc]) rfl ⟨rfl, ((Below.refl _ _).alloc (Nat.le_refl _) _).alloc (by simp) _⟩
set_option maxHeartbeats 4000000 in
theorem rshclosed_k (p : Peer10) (w : World) : Calls Try.prog 46 #[.agg (peerC p)] w fun e w' => e = .returned (.agg (peerC (closed10 p))) ∧ Below w.heap.size w w' := by
  show Calls _ _ _ _ fun e w' => e = .returned (.agg #[.int .i64 p.side, .int .i64 p.train, q32 p.base.k0, q32 p.base.k1, q32 p.base.k2, q32 p.base.k3, .int .i64 0, .int .u32 0, .int .u32 0, .int .u32 0, .int .u32 0, .int .u32 0, .int .u32 0, .bool p.half, q32 p.a2, q32 p.b2]) ∧ Below w.heap.size w w'
  unfold peerC
  go_enter Try.func46, Try.ntmps46
  go_wp2_with fail
  have hg := Blk.newAt (w.alloc (.cells #[.int .i64 p.side, .int .i64 p.train, q32 p.base.k0, q32 p.base.k1, q32 p.base.k2, q32 p.base.k3, .int .i64 0, .int .u32 0, .int .u32 0, .int .u32 0, .int .u32 0, .int .u32 0, .int .u32 0, .bool p.half, q32 p.a2, q32 p.b2] 26)) 26 #[.int .i64 p.side, .int .i64 p.train, q32 p.base.k0, q32 p.base.k1, q32 p.base.k2, q32 p.base.k3, .int .i64 0, .int .u32 0, .int .u32 0, .int .u32 0, .int .u32 0, .int .u32 0, .int .u32 0, .bool p.half, q32 p.a2, q32 p.b2] (w.heap.size + 1) (by simp)
  have hc := hg.cell
  refine bodyPost_ret (v := .agg #[.int .i64 p.side, .int .i64 p.train, q32 p.base.k0, q32 p.base.k1, q32 p.base.k2, q32 p.base.k3, .int .i64 0, .int .u32 0, .int .u32 0, .int .u32 0, .int .u32 0, .int .u32 0, .int .u32 0, .bool p.half, q32 p.a2, q32 p.b2]) (by simp [results, Try.results46, go_sem, hc]) rfl ⟨rfl, ((Below.refl _ _).alloc (Nat.le_refl _) _).alloc (by simp) _⟩
theorem rshnum_k (p : Peer10) (w : World) : Calls Try.prog 31 #[.agg (peerC p)] w fun e w' => e = .returned (.bool (numbered10 p)) ∧ Below w.heap.size w w' := by
  unfold peerC numbered10
  go_enter Try.func31, Try.ntmps31
  go_wp2_with fail
  all_goals
    go_ret
    refine ⟨congrArg (fun b => Ending.returned (Value.bool b)) ?_, (Below.refl _ _).alloc (Nat.le_refl _) _⟩
    first | rfl | (simp_all; done) | (simp_all; omega) | (simp_all; intro; omega) | (rw [Bool.eq_iff_iff]; simp; omega)
end Go.Proofs.Ytnngknmmokajgaa
