/- The chapter's examples are as they are told. -/
import Derived.Test.YtchjcfbhpgigjaaPduDocDecC
set_option linter.unusedSimpArgs false
set_option linter.unusedVariables false
namespace Go.Proofs.Ytchjcfbhpgigjaa
open Go.RowKit Go.Shelf

def ex1 : P7 := ⟨1, 0, 5, 1, 0, [], 0⟩
def ex2 : P7 := ⟨5, 1, 5, 0, 2, [9], 0⟩
def exK : K4 := ⟨1, 2, 3, 4⟩
def exS (M : BitVec 64) : P7 := ⟨5, 1, 5, 0, 2, [9], M⟩
theorem ex1_may : may ex1 = true := by decide
theorem ex2_may : may ex2 = true := by decide
theorem exS_may (M : BitVec 64) : may (exS M) = true := by
  rw [may_iff]
  unfold MayP exS
  simp
theorem ex1_enc : enc ex1 = [2, 0, 0, 5, 0, 0, 0, 1] := by decide
theorem exS_textB (M : BitVec 64) : textB (exS M) = [11, 0, 0, 5, 0, 0, 0, 2, 0, 1, 9] := by
  rw [show textB (exS M) = textB ex2 from rfl]
  decide
theorem exS_enc (M : BitVec 64) : enc (exS M) = [11, 0, 0, 5, 0, 0, 0, 2, 0, 1, 9] ++ be 8 M.toNat := by
  have h := exS_may M
  have h2 : enc (exS M) = textB (exS M) ++ be 8 M.toNat := by
    unfold enc
    rw [if_pos h, if_pos (by show (1 : Int) < 5; decide)]
    rfl
  rw [h2, exS_textB]
theorem ex_seal : seal7 exK ex2 = exS (Mac exK (text ex2)) := by
  unfold seal7
  rw [if_pos ⟨ex2_may, by decide⟩]
  rfl
theorem exS_text (M : BitVec 64) : text (exS M) = text ex2 := by
  unfold text
  rw [if_pos (exS_may M), if_pos ex2_may]
  rfl
theorem ex_right (M : BitVec 64) (h : Mac exK (text ex2) = M) : right7 exK (exS M) = true := by
  rw [right_yes exK (exS M) (exS_may M) (by show (5 : Int) ≠ 1; decide), exS_text, h]
  show (M == M) = true
  simp
theorem exS_dec (M : BitVec 64) : decI (enc (exS M)) = some (exS M) := (decI_spec _ _).2 ⟨exS_may M, rfl⟩
theorem exS_len (M : BitVec 64) : (enc (exS M)).length = 19 := by rw [exS_enc]; simp [be_length]
set_option maxHeartbeats 4000000 in
theorem awake9_any (w : World) : Calls Try.prog 9 #[] w fun e w' => e = .returned (.bool true) ∧ Below w.heap.size w w' := by
  obtain ⟨M, hM⟩ : ∃ M, Mac exK (text ex2) = M := ⟨_, rfl⟩
  have he1 : ∀ W, Calls Try.prog 10 #[.agg #[.int .i64 1, .int .i64 0, .int .i64 5, .int .u32 1, .int .u32 0, .slice none 0 0, .int .u64 0]] W fun e w' => ∃ A c, e = .returned (.tuple #[.slice A 8 c, .int .i64 0]) ∧ Bytes w' A c [2, 0, 0, 5, 0, 0, 0, 1] ∧ Below W.heap.size W w' := by
    intro W
    refine (penc_k ex1 none 0 0 W rfl (Bytes.nil _) (by decide)).mono ?_
    rintro e w' ⟨v, rfl, ⟨A, c, rfl, hB, _⟩, hb⟩
    rw [ex1_enc] at hB
    refine ⟨A, c, ?_, hB, hb⟩
    rw [ex1_may, ex1_enc]
    rfl
  have hse : ∀ W A, Bytes W A 1 [9] → Calls Try.prog 19 #[.agg #[.int .u32 1, .int .u32 2, .int .u32 3, .int .u32 4], .agg #[.int .i64 5, .int .i64 1, .int .i64 5, .int .u32 0, .int .u32 2, .slice A 1 1, .int .u64 0]] W fun e w' => ∃ A' c', e = .returned (.agg #[.int .i64 5, .int .i64 1, .int .i64 5, .int .u32 0, .int .u32 2, .slice A' 1 c', q64 M]) ∧ Bytes w' A' c' [9] ∧ Below W.heap.size W w' := by
    intro W A h
    refine (pseal_k exK 5 1 5 0 2 [9] 0 A 1 1 W rfl h (by decide)).mono ?_
    rintro e w' ⟨v, rfl, hp, hb⟩
    have hx : seal7 exK ⟨5, 1, 5, 0, 2, [9], 0⟩ = exS M := by rw [← hM]; exact ex_seal
    rw [hx] at hp
    obtain ⟨bv, rfl, A', c', rfl, hB, _⟩ := hp
    exact ⟨A', c', rfl, hB, hb⟩
  have he2 : ∀ W A c, Bytes W A c [9] → Calls Try.prog 10 #[.agg #[.int .i64 5, .int .i64 1, .int .i64 5, .int .u32 0, .int .u32 2, .slice A 1 c, q64 M]] W fun e w' => ∃ A' c', e = .returned (.tuple #[.slice A' 19 c', .int .i64 0]) ∧ Bytes w' A' c' (enc (exS M)) ∧ Below W.heap.size W w' := by
    intro W A c h
    refine (penc_k (exS M) A 1 c W rfl h (by show ([9] : List UInt8).length ≤ 2000; decide)).mono ?_
    rintro e w' ⟨v, rfl, ⟨A', c', rfl, hB, _⟩, hb⟩
    refine ⟨A', c', ?_, hB, hb⟩
    rw [exS_may, exS_len]
    rfl
  have hde : ∀ W A c, Bytes W A c (enc (exS M)) → Calls Try.prog 16 #[.slice A 19 c] W fun e w' => ∃ A' c', e = .returned (.tuple #[.agg #[.int .i64 5, .int .i64 1, .int .i64 5, .int .u32 0, .int .u32 2, .slice A' 1 c', q64 M], .int .i64 0]) ∧ Bytes w' A' c' [9] ∧ Below W.heap.size W w' := by
    intro W A c h
    refine (pdec_k A 19 c (enc (exS M)) W (exS_len M).symm h (by rw [exS_len]; decide)).mono ?_
    rw [exS_dec]
    rintro e w' ⟨v, rfl, ⟨bv, rfl, A', c', rfl, hB, _⟩, hb⟩
    exact ⟨A', c', rfl, hB, hb⟩
  have hri : ∀ W A c, Bytes W A c [9] → Calls Try.prog 21 #[.agg #[.int .u32 1, .int .u32 2, .int .u32 3, .int .u32 4], .agg #[.int .i64 5, .int .i64 1, .int .i64 5, .int .u32 0, .int .u32 2, .slice A 1 c, q64 M]] W fun e w' => e = .returned (.bool true) ∧ Below W.heap.size W w' := by
    intro W A c h
    have := pright_k exK (exS M) A 1 c W rfl h (by show ([9] : List UInt8).length ≤ 2000; decide)
    rw [ex_right M hM] at this
    exact this
  have hcut : ∀ (W : World) A c, Bytes W A c (enc (exS M)) → (convert 23 9 (.slice A 11 c)).run Try.prog W = .ok (.string ⟨#[11, 0, 0, 5, 0, 0, 0, 2, 0, 1, 9]⟩) W := by
    intro W A c h
    have h2 := h.cutTo 11 (by rw [exS_len]; decide)
    rw [exS_enc, List.take_left' (by rfl)] at h2
    exact run_bytes_string h2
  have hnine : ∀ W : World, Bytes (W.alloc (.cells #[.int .u8 9] 5)) (some ⟨W.heap.size, 0, none⟩) 1 [9] := fun W => one_byte (x := 9) (Blk.new W _ _)
  go_enter Try.func9, Try.ntmps9
  go_wp2_with (first
    | (go_at_call 10; (with_reducible refine (he1 _).mono ?_); rintro e w1 ⟨A1, c1, rfl, hB1, hb1⟩)
    | (go_at_call 19; (with_reducible refine (hse _ _ (hnine _)).mono ?_); rintro e w2 ⟨A2, c2, rfl, hB2, hb2⟩)
    | (go_at_call 10; (with_reducible refine (he2 _ _ _ (hB2.alloc _)).mono ?_); rintro e w3 ⟨A3, c3, rfl, hB3, hb3⟩)
    | (go_at_call 16; (with_reducible refine (hde _ _ _ hB3).mono ?_); rintro e w4 ⟨A4, c4, rfl, hB4, hb4⟩; go_loud (have s1 : ∀ o, (convert 23 9 (.slice A1 8 c1)).run Try.prog (w4.alloc o) = .ok (.string ⟨#[2, 0, 0, 5, 0, 0, 0, 1]⟩) (w4.alloc o) := fun o => run_bytes_string ((((hB1.below (below_of_alloc hb2)).below (below_of_alloc hb3)).below hb4).alloc o); have s2 : ∀ o, (convert 23 9 (.slice A3 11 c3)).run Try.prog (w4.alloc o) = .ok (.string ⟨#[11, 0, 0, 5, 0, 0, 0, 2, 0, 1, 9]⟩) (w4.alloc o) := fun o => hcut _ _ _ ((hB3.below hb4).alloc o); have hcap3 := hB3.cap; rw [exS_len] at hcap3))
    | (go_at_call 21; (with_reducible refine (hri _ _ _ (hB4.alloc _)).mono ?_); rintro e w5 ⟨rfl, hb5⟩))
  go_ret
  exact ⟨rfl, below_then hb1 (below_then (below_of_alloc hb2) (below_then (below_of_alloc hb3) (below_then hb4 (below_of_alloc hb5))))⟩
end Go.Proofs.Ytchjcfbhpgigjaa
