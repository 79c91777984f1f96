/- The chapter's example, walked: the cipher is awake. -/
import Derived.Test.YtcmchgfhnmndeaaCipher
namespace Go.Proofs.Ytcmchgfhnmndeaa
open Go.RowKit
theorem enc_awake (w : World) : Calls Try.prog 11 #[.agg #[.int .u32 454695192, .int .u32 319951120, .int .u32 185207048, .int .u32 50462976], .int .u64 4283597746427216685] w fun e w' => e = .returned (.int .u64 10119488617543762571) ∧ Below w.heap.size w w' := by
  have h := enc_any 0x1b1a1918 0x13121110 0x0b0a0908 0x03020100 0x3b7265747475432d w
  rw [awake_enc] at h
  exact h
theorem dec_awake (w : World) : Calls Try.prog 13 #[.agg #[.int .u32 454695192, .int .u32 319951120, .int .u32 185207048, .int .u32 50462976], .int .u64 10119488617543762571] w fun e w' => e = .returned (.int .u64 4283597746427216685) ∧ Below w.heap.size w w' := by
  have h := dec_any 0x1b1a1918 0x13121110 0x0b0a0908 0x03020100 0x8c6fa548454e028b w
  rw [awake_dec] at h
  exact h
set_option maxHeartbeats 1000000 in
theorem awake7_any (w : World) : Calls Try.prog 8 #[] w fun e w' => e = .returned (.bool true) ∧ Below w.heap.size w w' := by
  go_enter Try.func8, Try.ntmps8
  go_wp2_with (first | (go_at_call 11; (with_reducible refine (enc_awake _).mono ?_); rintro e w1 ⟨rfl, hb1⟩; obtain ⟨hc1, _⟩ := bcell hb1) | (go_at_call 13; (with_reducible refine (dec_awake _).mono ?_); rintro e w2 ⟨rfl, hb2⟩))
  go_ret
  exact ⟨rfl, below_then (below_of_alloc hb1) hb2⟩
end Go.Proofs.Ytcmchgfhnmndeaa
