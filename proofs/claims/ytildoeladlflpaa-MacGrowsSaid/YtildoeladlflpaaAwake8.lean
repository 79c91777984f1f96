/- The chapter's examples, walked: the seal is awake. -/
import Derived.Test.YtildoeladlflpaaMac
import Derived.Test.YtildoeladlflpaaRegion
namespace Go.Proofs.Ytildoeladlflpaa
open Go.RowKit
def k1234 : K4 := ⟨1, 2, 3, 4⟩
theorem mac_1234 (A : Option Addr) (n c : Nat) (bs : List UInt8) (w : World) (hn : n = bs.length) (hb : Bytes w A c bs) (hlen : bs.length ≤ 65536) :
    Calls Try.prog 9 #[.agg #[.int .u32 1, .int .u32 2, .int .u32 3, .int .u32 4], .slice A n c] w fun e w' => e = .returned (q64 (Mac k1234 bs)) ∧ Below w.heap.size w w' := by
  subst hn
  exact mac_k k1234 A c bs w hb hlen
theorem enc_1234 (x : BitVec 64) (w : World) : Calls Try.prog 14 #[.agg #[.int .u32 1, .int .u32 2, .int .u32 3, .int .u32 4], q64 x] w fun e w' => e = .returned (q64 (Enc k1234 x)) ∧ Below w.heap.size w w' := enc_k k1234 x w
theorem enc_1234_0 (w : World) : Calls Try.prog 14 #[.agg #[.int .u32 1, .int .u32 2, .int .u32 3, .int .u32 4], .int .u64 0] w fun e w' => e = .returned (q64 (Enc k1234 0)) ∧ Below w.heap.size w w' := enc_k k1234 0 w
theorem enc_1234_1 (w : World) : Calls Try.prog 14 #[.agg #[.int .u32 1, .int .u32 2, .int .u32 3, .int .u32 4], .int .u64 1] w fun e w' => e = .returned (q64 (Enc k1234 1)) ∧ Below w.heap.size w w' := enc_k k1234 1 w
theorem mac_not0 : Mac k1234 [] ≠ 0 := by decide +kernel
theorem q8_seven : Value.int .u8 7 = q8 7 := rfl
set_option maxHeartbeats 4000000 in
theorem awake8_any (w : World) : Calls Try.prog 8 #[] w fun e w' => e = .returned (.bool true) ∧ Below w.heap.size w w' := by
  have m1 : (Mac k1234 [] == Enc k1234 0#64) = true := by rw [mac_nil]; simp
  have m2 : (Mac k1234 [7] == Enc k1234 (Enc k1234 1 ^^^ 504403158265495552#64)) = true := by rw [mac_seven]; simp
  have m3 : (Mac k1234 [] != 0#64) = true := by rw [bne_iff_ne]; exact mac_not0
  go_enter Try.func8, Try.ntmps8
  go_wp2_with fail
  apply wp_region_lex
  case hFl =>
    intro u
    simp only [List.map, fill, Act.put, List.setIfInBounds_toArray, List.set_cons_zero, List.set_cons_succ, Nat.reduceAdd, Nat.zero_add]
    rfl
  case hm => kernel_rfl
  case hB => kernel_rfl
  case hap => kernel_rfl
  iterate 7 (
    apply Lex.is
    · (intro u w' hk hd
       obtain ⟨hc, hf⟩ := bcell hk
       simp [Waited, Region.binds, Is] at hd
       refine looked_want (by first | rfl | simp [Region.wanted, yielded, hd]) ?_
       intro K hK
       go_wp2_with (first | (go_at_call 9; (with_reducible refine (mac_1234 none 0 0 [] _ rfl (Bytes.nil _) (by decide)).mono ?_); rintro e w2 ⟨rfl, hb⟩) | (go_at_call 14; (with_reducible refine (enc_1234_0 _).mono ?_); rintro e w2 ⟨rfl, hb⟩))
       try simp only [hd] at hK
       refine hK _ _ ?_ rfl
       first | exact Below.refl _ _ | exact hb))
  refine Lex.word (IsBytes [7]) (fun _ _ _ h hb => h.grow hb) ?_ ?_
  · intro u w' hk hd
    simp [Waited, Region.binds, Is] at hd
    refine looked_want (by simp [Region.wanted, yielded, hd]) ?_
    intro K hK
    go_wp2_with fail
    try simp only [hd] at hK
    refine hK _ _ ((Below.refl _ _).alloc (Nat.le_refl _) _) ⟨_, _, rfl, Row.block (cs := #[q8 7]) (Blk.new _ _ _), Nat.le_refl _, by decide⟩
  apply Lex.is
  · intro u w' hk hd
    obtain ⟨hc, hf⟩ := bcell hk
    simp [Waited, Region.binds, Is] at hd
    obtain ⟨hd1, ⟨A, c, hd3, hB⟩, hd2⟩ := hd
    refine looked_want (by simp [Region.wanted, yielded, hd2]) ?_
    intro K hK
    go_wp2_with (go_at_call 9; (with_reducible refine (mac_1234 A 1 c [7] _ rfl hB (by decide)).mono ?_); rintro e w2 ⟨rfl, hb⟩)
    simp only [hd1, hd2, hd3] at hK
    exact hK _ _ hb rfl
  iterate 4 (
    apply Lex.is
    · (intro u w' hk hd
       obtain ⟨hc, hf⟩ := bcell hk
       simp [Waited, Region.binds, Is] at hd
       refine looked_want (by first | rfl | simp [Region.wanted, yielded, hd]) ?_
       intro K hK
       go_wp2_with (first | (go_at_call 9; (with_reducible refine (mac_1234 none 0 0 [] _ rfl (Bytes.nil _) (by decide)).mono ?_); rintro e w2 ⟨rfl, hb⟩) | (go_at_call 14; (with_reducible refine (enc_1234_1 _).mono ?_); rintro e w2 ⟨rfl, hb⟩) | (go_at_call 14; (with_reducible refine (enc_1234 _ _).mono ?_); rintro e w2 ⟨rfl, hb⟩))
       try simp only [hd] at hK
       refine hK _ _ ?_ rfl
       first | exact Below.refl _ _ | exact hb))
  apply Lex.is
  · (intro u w' hk hd
     simp [Waited, Region.binds, Is] at hd
     refine looked_want (by first | rfl | simp [Region.wanted, yielded, hd]) ?_
     intro K hK
     go_wp2_with (go_at_call 14; (with_reducible refine (enc_1234 (Enc k1234 1#64 ^^^ 504403158265495552#64) _).mono ?_); rintro e w2 ⟨rfl, hb⟩)
     try simp only [hd] at hK
     exact hK _ _ hb rfl)
  refine Lex.word (Is (.bool true)) (grows_is _) ?_ ?_
  · (intro u w' hk hd
     simp [Waited, Region.binds, Is] at hd
     refine looked_want (by first | rfl | simp [Region.wanted, yielded, hd]) ?_
     intro K hK
     go_wp2_with fail
     try simp only [hd] at hK
     refine hK _ _ (Below.refl _ _) ?_
     exact congrArg Value.bool m2)
  iterate 4 (
    apply Lex.is
    · (intro u w' hk hd
       obtain ⟨hc, hf⟩ := bcell hk
       simp [Waited, Region.binds, Is] at hd
       refine looked_want (by first | rfl | simp [Region.wanted, yielded, hd]) ?_
       intro K hK
       go_wp2_with (first | (go_at_call 9; (with_reducible refine (mac_1234 none 0 0 [] _ rfl (Bytes.nil _) (by decide)).mono ?_); rintro e w2 ⟨rfl, hb⟩))
       try simp only [hd] at hK
       refine hK _ _ ?_ rfl
       first | exact Below.refl _ _ | exact hb))
  refine Lex.word (Is (.bool true)) (grows_is _) ?_ ?_
  · (intro u w' hk hd
     simp [Waited, Region.binds, Is] at hd
     refine looked_want (by first | rfl | simp [Region.wanted, yielded, hd]) ?_
     intro K hK
     go_wp2_with fail
     try simp only [hd] at hK
     refine hK _ _ (Below.refl _ _) ?_
     rfl)
  iterate 2 (
    apply Lex.is
    · (intro u w' hk hd
       simp [Waited, Region.binds, Is] at hd
       refine looked_want (by first | rfl | simp [Region.wanted, yielded, hd]) ?_
       intro K hK
       go_wp2_with fail
       try simp only [hd] at hK
       exact hK _ _ (Below.refl _ _) rfl))
  apply Lex.nil
  intro u w' hk hd
  have h21 := hd 21 _ rfl
  simp only [Is] at h21
  clear hd
  go_wp2_with fail
  simp only [h21]
  go_ret
  exact ⟨rfl, below_of_alloc hk⟩
end Go.Proofs.Ytildoeladlflpaa
