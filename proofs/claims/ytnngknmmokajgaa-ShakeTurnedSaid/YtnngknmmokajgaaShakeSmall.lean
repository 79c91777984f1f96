/- The small functions of package shake: whose end it is, its direction, its number, whether it fits a PDU. -/
import Derived.Test.YtnngknmmokajgaaShakeMath
set_option linter.unusedSimpArgs false
set_option linter.unusedVariables false
namespace Go.Proofs.Ytnngknmmokajgaa
open Go.RowKit Go.Shelf

theorem shtrain_k (p : Peer10) (w : World) : Calls Try.prog 29 #[.agg (peerC p)] w fun e w' => e = .returned (.bool (p.side == 0)) ∧ Below w.heap.size w w' := by
  unfold peerC
  go_enter Try.func29, Try.ntmps29
  go_wp2_with fail
  go_ret
  exact ⟨rfl, (Below.refl _ _).alloc (Nat.le_refl _) _⟩
theorem shnum_k (p : Peer10) (w : World) : Calls Try.prog 30 #[.agg (peerC p)] w fun e w' => e = .returned (.bool (numbered10 p)) ∧ Below w.heap.size w w' := by
  unfold peerC numbered10
  go_enter Try.func30, Try.ntmps30
  go_wp2_with fail
  all_goals
    go_ret
    refine ⟨congrArg (fun b => Ending.returned (Value.bool b)) ?_, (Below.refl _ _).alloc (Nat.le_refl _) _⟩
    first | rfl | (simp_all; done) | (simp_all; omega) | (simp_all; intro; omega)
theorem shdir_k (p : Peer10) (w : World) : Calls Try.prog 40 #[.agg (peerC p)] w fun e w' => e = .returned (.int .i64 (dir10 p)) ∧ Below w.heap.size w w' := by
  have ht := fun W => shtrain_k p W
  unfold dir10
  by_cases h : p.side = 0
  · have hb : (p.side == 0) = true := by simp [h]
    rw [hb] at ht
    rw [if_pos h]
    unfold peerC at ht ⊢
    clear hb h
    go_enter Try.func40, Try.ntmps40
    go_wp2_with (go_at_call 29; (with_reducible refine (ht _).mono ?_); rintro e w1 ⟨rfl, hb⟩)
    go_ret
    exact ⟨rfl, below_of_alloc hb⟩
  · have hb : (p.side == 0) = false := by simp [h]
    rw [hb] at ht
    rw [if_neg h]
    unfold peerC at ht ⊢
    clear hb h
    go_enter Try.func40, Try.ntmps40
    go_wp2_with (go_at_call 29; (with_reducible refine (ht _).mono ?_); rintro e w1 ⟨rfl, hb⟩)
    go_ret
    exact ⟨rfl, below_of_alloc hb⟩
end Go.Proofs.Ytnngknmmokajgaa
