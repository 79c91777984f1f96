/- ShakeOther: what was sent over another connection, or answers another question, is not taken. -/
import Derived.Test.YtnngknmmokajgaaAwake10
import Derived.Test.YtnngknmmokajgaaPduIn
set_option linter.unusedSimpArgs false
set_option linter.unusedVariables false
namespace Go.Proofs.Ytnngknmmokajgaa
open Go.ChangeShapes Go.WideShapes Go.ChangeAt Go.RowKit
open Go.ChangeMaps (open_string shut_string)

set_option maxRecDepth 20000 in
set_option maxHeartbeats 16000000 in
theorem shakeOther_walk (base other : K4) (train : Int) (tlo : -9223372036854775808 ≤ train) (thi : train ≤ 9223372036854775807) (a b c d : BitVec 32) (v : Value) (body : List UInt8) (w : World) (hv : IsBytes body v w) : Calls Try.prog 4 #[.agg #[q32 base.k0, q32 base.k1, q32 base.k2, q32 base.k3], .agg #[q32 other.k0, q32 other.k1, q32 other.k2, q32 other.k3], .int .i64 train, q32 a, q32 b, q32 c, q32 d, v] w fun e w' => e = .returned (.bool true) ∧ Below w.heap.size w w' := by
  obtain ⟨A, c0, rfl, hB⟩ := hv
  have hl := hB.len_le
  by_cases hg : 1 ≤ body.length ∧ body.length ≤ 1023 ∧ 0 ≤ train ∧ train < 16777216
  · obtain ⟨g1, g2, g3, g4⟩ := hg
    have hbo1 := fun W => both_k base train a b W g3 g4
    have hbo2 := fun W => both_k other train c d W g3 g4
    have hda1 : ∀ W, Bytes W A c0 body → Calls Try.prog 20 #[.agg (peerC (endX other train c d)), .slice A body.length c0] W fun e w' => ∃ A' c', e = .returned (.tuple #[.agg (pduC (sent7 (Derive other c d) 0 train d body) A' body.length c'), .int .i64 0]) ∧ Bytes w' A' c' body ∧ Below W.heap.size W w' := fun W h => by
      obtain ⟨e1, e2⟩ := data_up (endX_up other train c d) g3 g4 body g1 g2
      have := shdata_k (endX other train c d) body A body.length c0 W rfl h (by omega)
      rw [e1, e2] at this
      exact this
    have hda2 : ∀ W, Bytes W A c0 body → Calls Try.prog 20 #[.agg (peerC (endY other train c d)), .slice A body.length c0] W fun e w' => ∃ A' c', e = .returned (.tuple #[.agg (pduC (sent7 (Derive other c d) 1 train d body) A' body.length c'), .int .i64 0]) ∧ Bytes w' A' c' body ∧ Below W.heap.size W w' := fun W h => by
      obtain ⟨e1, e2⟩ := data_up (endY_up other train c d) g3 g4 body g1 g2
      have := shdata_k (endY other train c d) body A body.length c0 W rfl h (by omega)
      rw [e1, e2] at this
      exact this
    obtain ⟨r1, hr1⟩ : ∃ r1, taken10 (endY base train a b) (sent7 (Derive other c d) 0 train d body) 5 = r1 := ⟨_, rfl⟩
    have hta1 : ∀ W A1 c1, Bytes W A1 c1 body → Calls Try.prog 21 #[.agg (peerC (endY base train a b)), .agg (pduC (sent7 (Derive other c d) 0 train d body) A1 body.length c1)] W fun e w' => ∃ v, e = .returned (.tuple #[v, .int .i64 r1]) ∧ Below W.heap.size W w' := fun W A1 c1 h => by
      have := shtake_k (endY base train a b) (sent7 (Derive other c d) 0 train d body) A1 body.length c1 W rfl h (by show body.length ≤ 2000; omega)
      rw [show taken10 (endY base train a b) (sent7 (Derive other c d) 0 train d body) 5 = r1 from hr1] at this
      exact this.mono fun e w' ⟨v, h1, _, h3⟩ => ⟨v, h1, h3⟩
    have sr1 : (b != d) = true → r1 = 110 := fun h => by
      rw [← hr1]
      exact take_stale (endY_up base train a b) g3 g4 (Derive other c d) d 0 (by decide) (by decide) (by show (0 : Int) ≠ (if (1 : Int) = 0 then 0 else 1); decide) body g1 g2 (by simpa using h)
    clear hr1
    obtain ⟨r2, hr2⟩ : ∃ r2, taken10 (endX base train a b) (sent7 (Derive other c d) 1 train d body) 5 = r2 := ⟨_, rfl⟩
    have hta2 : ∀ W A1 c1, Bytes W A1 c1 body → Calls Try.prog 21 #[.agg (peerC (endX base train a b)), .agg (pduC (sent7 (Derive other c d) 1 train d body) A1 body.length c1)] W fun e w' => ∃ v, e = .returned (.tuple #[v, .int .i64 r2]) ∧ Below W.heap.size W w' := fun W A1 c1 h => by
      have := shtake_k (endX base train a b) (sent7 (Derive other c d) 1 train d body) A1 body.length c1 W rfl h (by show body.length ≤ 2000; omega)
      rw [show taken10 (endX base train a b) (sent7 (Derive other c d) 1 train d body) 5 = r2 from hr2] at this
      exact this.mono fun e w' ⟨v, h1, _, h3⟩ => ⟨v, h1, h3⟩
    have sr2 : (b != d) = true → r2 = 110 := fun h => by
      rw [← hr2]
      exact take_stale (endX_up base train a b) g3 g4 (Derive other c d) d 1 (by decide) (by decide) (by show (1 : Int) ≠ (if (0 : Int) = 0 then 0 else 1); decide) body g1 g2 (by simpa using h)
    clear hr2
    have hask : ∀ W, Calls Try.prog 10 #[.agg (peerC (endX base train a b)), q32 a] W fun e w' => ∃ A' c', e = .returned (.tuple #[.agg (peerC (asked10 train base a)), .agg (pduC (ask7 train a) A' 0 c'), .int .i64 0]) ∧ (∀ W, Bytes W A' c' []) ∧ Below W.heap.size W w' := fun W => by
      obtain ⟨e1, e2, e3⟩ := ask_up base train a b g3 g4
      have := shask_k (endX base train a b) a W
      rw [e1, e2, e3] at this
      exact this.mono fun e w' h => ret_nil rfl h
    have hans : ∀ W, Calls Try.prog 13 #[.agg (peerC (endY other train c d)), .agg #[.int .i64 1, .int .i64 0, .int .i64 train, q32 c, .int .u32 0, .slice none 0 0, .int .u64 0], q32 d] W fun e w' => ∃ A' c', e = .returned (.tuple #[.agg (peerC (⟨1, train, other, 2, c, d, Derive other c d, true, c, d⟩ : Peer10)), .agg (pduC (ans7 other train c d) A' 0 c'), .int .i64 0]) ∧ (∀ W, Bytes W A' c' []) ∧ Below W.heap.size W w' := fun W => by
      obtain ⟨e1, e2, e3⟩ := answer_up other train c d g3 g4 c d
      have := shanswer_k (endY other train c d) (ask7 train c) d none 0 0 W rfl (Bytes.nil _) (by show (0 : Nat) ≤ 2000; decide)
      unfold ask7 at this
      rw [e1, e2, e3] at this
      exact this.mono fun e w' h => ret_nil rfl h
    obtain ⟨r3, hr3⟩ : ∃ r3, confirmE (asked10 train base a) (ans7 other train c d) = r3 := ⟨_, rfl⟩
    have s3 : (a == c) = false → r3 = 110 := fun h => by
      rw [← hr3]
      exact confirm_other base train a g3 g4 other c d (by simpa using h)
    have hcon : ∀ W A1 c1, (∀ W, Bytes W A1 c1 []) → Calls Try.prog 15 #[.agg (peerC (asked10 train base a)), .agg (pduC (ans7 other train c d) A1 0 c1)] W fun e w' => ∃ P Q A' c', e = .returned (.tuple #[.agg (peerC P), .agg (pduC Q A' Q.body.length c'), .int .i64 r3]) ∧ Below W.heap.size W w' := fun W A1 c1 h => by
      have := shconfirm_k (asked10 train base a) (ans7 other train c d) A1 0 c1 W rfl (h W) (by show (0 : Nat) ≤ 2000; decide)
      rw [hr3] at this
      exact this.mono fun e w' ⟨A', c', h1, _, h3⟩ => ⟨_, _, A', c', h1, h3⟩
    clear hr3
    have hO : Own w _ [_, _] := Own.start2 w 24 24 #[q32 base.k0, q32 base.k1, q32 base.k2, q32 base.k3] #[q32 other.k0, q32 other.k1, q32 other.k2, q32 other.k3]
    obtain ⟨xb, hxb⟩ : ∃ xb, (b != d) = xb := ⟨_, rfl⟩
    obtain ⟨yb, hyb⟩ : ∃ yb, (a == c) = yb := ⟨_, rfl⟩
    rw [hxb] at sr1 sr2
    rw [hyb] at s3
    cases xb <;> cases yb <;>
      (try (have h1 := sr1 rfl; subst h1)
       try (have h2 := sr2 rfl; subst h2)
       try (have h3 := s3 rfl; subst h3)
       clear sr1 sr2 s3
       go_enter Try.func4, Try.ntmps4
       go_wp2_with (first
         | (go_at_call 9; (with_reducible refine (awake10_any _).mono ?_); rintro e w1 ⟨rfl, hb1⟩; replace hO := hO.grow hb1)
         | ((with_reducible refine own_loadg0 hO ?_ _ rfl rfl _ Try.underlying24 rfl (by kernel_rfl) ?_); (· first | rfl | (simp [Region.wanted, yielded]; done)))
         | ((with_reducible refine own_loadg1 hO ?_ _ rfl rfl _ Try.underlying24 rfl (by kernel_rfl) ?_); (· first | rfl | (simp [Region.wanted, yielded]; done)))
         | (go_at_call 19; (with_reducible refine (hbo1 _).mono ?_); rintro e w2 ⟨rfl, hb2⟩; replace hO := hO.grow hb2)
         | (with_reducible refine own_row2 (peerC (endX base train a b)) (hO.two2 26 26 #[.int .i64 0, .int .i64 0, .int .u32 0, .int .u32 0, .int .u32 0, .int .u32 0, .int .i64 0, .int .u32 0, .int .u32 0, .int .u32 0, .int .u32 0, .int .u32 0, .int .u32 0, .bool false, .int .u32 0, .int .u32 0] #[.int .i64 0, .int .i64 0, .int .u32 0, .int .u32 0, .int .u32 0, .int .u32 0, .int .i64 0, .int .u32 0, .int .u32 0, .int .u32 0, .int .u32 0, .int .u32 0, .int .u32 0, .bool false, .int .u32 0, .int .u32 0]) rfl _ _ rfl rfl rfl (peer_size (endX base train a b)) (by kernel_rfl) (peer_cells (endX base train a b)) ?_; intro w21 hO21 hz21 hk21; replace hO := hO21; clear hO21 hz21 hk21)
         | (with_reducible refine own_row3 (peerC (endY base train a b)) hO rfl _ _ rfl rfl rfl (peer_size (endY base train a b)) (by kernel_rfl) (peer_cells (endY base train a b)) ?_; intro w22 hO22 hz22 hk22; replace hO := hO22; clear hO22 hz22 hk22)
         | (go_at_call 19; (with_reducible refine (hbo2 _).mono ?_); rintro e w3 ⟨rfl, hb3⟩; replace hO := hO.grow hb3)
         | (with_reducible refine own_row4 (peerC (endX other train c d)) (hO.two4 26 26 #[.int .i64 0, .int .i64 0, .int .u32 0, .int .u32 0, .int .u32 0, .int .u32 0, .int .i64 0, .int .u32 0, .int .u32 0, .int .u32 0, .int .u32 0, .int .u32 0, .int .u32 0, .bool false, .int .u32 0, .int .u32 0] #[.int .i64 0, .int .i64 0, .int .u32 0, .int .u32 0, .int .u32 0, .int .u32 0, .int .i64 0, .int .u32 0, .int .u32 0, .int .u32 0, .int .u32 0, .int .u32 0, .int .u32 0, .bool false, .int .u32 0, .int .u32 0]) rfl _ _ rfl rfl rfl (peer_size (endX other train c d)) (by kernel_rfl) (peer_cells (endX other train c d)) ?_; intro w31 hO31 hz31 hk31; replace hO := hO31; clear hO31 hz31 hk31)
         | (with_reducible refine own_row5 (peerC (endY other train c d)) hO rfl _ _ rfl rfl rfl (peer_size (endY other train c d)) (by kernel_rfl) (peer_cells (endY other train c d)) ?_; intro w32 hO32 hz32 hk32; replace hO := hO32; clear hO32 hz32 hk32)
         | ((with_reducible refine own_loadg2 hO ?_ _ rfl rfl _ Try.underlying26 rfl (peer_size _) ?_); (· first | rfl | (simp [Region.wanted, yielded]; done)))
         | ((with_reducible refine own_loadg3 hO ?_ _ rfl rfl _ Try.underlying26 rfl (peer_size _) ?_); (· first | rfl | (simp [Region.wanted, yielded]; done)))
         | ((with_reducible refine own_loadg4 hO ?_ _ rfl rfl _ Try.underlying26 rfl (peer_size _) ?_); (· first | rfl | (simp [Region.wanted, yielded]; done)))
         | ((with_reducible refine own_loadg5 hO ?_ _ rfl rfl _ Try.underlying26 rfl (peer_size _) ?_); (· first | rfl | (simp [Region.wanted, yielded]; done)))
         | ((with_reducible refine own_loadg6 hO ?_ _ rfl rfl _ Try.underlying30 rfl (pdu_size _ _ _ _) ?_); (· first | rfl | (simp [Region.wanted, yielded]; done)))
         | ((with_reducible refine own_loadg7 hO ?_ _ rfl rfl _ Try.underlying30 rfl (pdu_size _ _ _ _) ?_); (· first | rfl | (simp [Region.wanted, yielded]; done)))
         | (go_at_call 20; (with_reducible refine (hda1 _ (hB.below hO.below)).mono ?_); rintro e w4 ⟨A4, c4, rfl, hB4, hb4⟩; replace hO := hO.grow hb4)
         | (with_reducible refine own_row6 (pduC (sent7 (Derive other c d) 0 train d body) A4 body.length c4) (hO.new6 30 #[.int .i64 0, .int .i64 0, .int .i64 0, .int .u32 0, .int .u32 0, .slice none 0 0, .int .u64 0]) rfl _ _ rfl rfl rfl (pdu_size (sent7 (Derive other c d) 0 train d body) A4 body.length c4) (by kernel_rfl) (pdu_cells (sent7 (Derive other c d) 0 train d body) A4 body.length c4) ?_; intro w41 hO41 hz41 hk41; have hB41 := (hB4.alloc _).apart (Blk.new w4 _ _) (by kernel_rfl) hz41 hk41; replace hO := hO41; clear hO41 hz41 hk41)
         | (go_at_call 20; (with_reducible refine (hda2 _ (hB.below hO.below)).mono ?_); rintro e w5 ⟨A5, c5, rfl, hB5, hb5⟩; have hB45 := hB41.below hb5; replace hO := hO.grow hb5)
         | (with_reducible refine own_row7 (pduC (sent7 (Derive other c d) 1 train d body) A5 body.length c5) (hO.new7 30 #[.int .i64 0, .int .i64 0, .int .i64 0, .int .u32 0, .int .u32 0, .slice none 0 0, .int .u64 0]) rfl _ _ rfl rfl rfl (pdu_size (sent7 (Derive other c d) 1 train d body) A5 body.length c5) (by kernel_rfl) (pdu_cells (sent7 (Derive other c d) 1 train d body) A5 body.length c5) ?_; intro w51 hO51 hz51 hk51; have hB51 := (hB5.alloc _).apart (Blk.new w5 _ _) (by kernel_rfl) hz51 hk51; have hB451 := (hB45.alloc _).apart (Blk.new w5 _ _) (by kernel_rfl) hz51 hk51; replace hO := hO51; clear hO51 hz51 hk51)
         | (go_at_call 21; (with_reducible refine (hta1 _ A4 c4 hB451).mono ?_); rintro e w6 ⟨v6, rfl, hb6⟩; have hB56 := hB51.below hb6; replace hO := hO.grow hb6)
         | (go_at_call 21; (with_reducible refine (hta2 _ A5 c5 hB56).mono ?_); rintro e w7 ⟨v7, rfl, hb7⟩; replace hO := hO.grow hb7)
         | (go_at_call 10; (with_reducible refine (hask _).mono ?_); rintro e w8 ⟨A8, c8, rfl, hN8, hb8⟩; replace hO := hO.grow hb8)
         | (with_reducible refine own_row8 (peerC (asked10 train base a)) (hO.two8 26 30 #[.int .i64 0, .int .i64 0, .int .u32 0, .int .u32 0, .int .u32 0, .int .u32 0, .int .i64 0, .int .u32 0, .int .u32 0, .int .u32 0, .int .u32 0, .int .u32 0, .int .u32 0, .bool false, .int .u32 0, .int .u32 0] #[.int .i64 0, .int .i64 0, .int .i64 0, .int .u32 0, .int .u32 0, .slice none 0 0, .int .u64 0]) rfl _ _ rfl rfl rfl (peer_size (asked10 train base a)) (by kernel_rfl) (peer_cells (asked10 train base a)) ?_; intro w81 hO81 hz81 hk81; replace hO := hO81; clear hO81 hz81 hk81)
         | (with_reducible refine own_row9 (pduC (ask7 train a) A8 0 c8) hO rfl _ _ rfl rfl rfl (pdu_size (ask7 train a) A8 0 c8) (by kernel_rfl) (pdu_cells (ask7 train a) A8 0 c8) ?_; intro w82 hO82 hz82 hk82; replace hO := hO82; clear hO82 hz82 hk82)
         | (go_at_call 13; (with_reducible refine (hans _).mono ?_); rintro e w9 ⟨A9, c9, rfl, hN9, hb9⟩; replace hO := hO.grow hb9)
         | (with_reducible refine own_row10 (peerC (⟨1, train, other, 2, c, d, Derive other c d, true, c, d⟩ : Peer10)) (hO.two10 26 30 #[.int .i64 0, .int .i64 0, .int .u32 0, .int .u32 0, .int .u32 0, .int .u32 0, .int .i64 0, .int .u32 0, .int .u32 0, .int .u32 0, .int .u32 0, .int .u32 0, .int .u32 0, .bool false, .int .u32 0, .int .u32 0] #[.int .i64 0, .int .i64 0, .int .i64 0, .int .u32 0, .int .u32 0, .slice none 0 0, .int .u64 0]) rfl _ _ rfl rfl rfl (peer_size (⟨1, train, other, 2, c, d, Derive other c d, true, c, d⟩ : Peer10)) (by kernel_rfl) (peer_cells (⟨1, train, other, 2, c, d, Derive other c d, true, c, d⟩ : Peer10)) ?_; intro w91 hO91 hz91 hk91; replace hO := hO91; clear hO91 hz91 hk91)
         | (with_reducible refine own_row11 (pduC (ans7 other train c d) A9 0 c9) hO rfl _ _ rfl rfl rfl (pdu_size (ans7 other train c d) A9 0 c9) (by kernel_rfl) (pdu_cells (ans7 other train c d) A9 0 c9) ?_; intro w92 hO92 hz92 hk92; replace hO := hO92; clear hO92 hz92 hk92)
         | ((with_reducible refine own_loadg8 hO ?_ _ rfl rfl _ Try.underlying26 rfl (peer_size _) ?_); (· first | rfl | (simp [Region.wanted, yielded]; done)))
         | ((with_reducible refine own_loadg11 hO ?_ _ rfl rfl _ Try.underlying30 rfl (pdu_size _ _ _ _) ?_); (· first | rfl | (simp [Region.wanted, yielded]; done)))
         | (go_at_call 15; (with_reducible refine (hcon _ A9 c9 hN9).mono ?_); rintro e w10 ⟨P10, Q10, A10, c10, rfl, hb10⟩; replace hO := hO.grow hb10)
         | (with_reducible refine own_row12 (peerC P10) (hO.two12 26 30 #[.int .i64 0, .int .i64 0, .int .u32 0, .int .u32 0, .int .u32 0, .int .u32 0, .int .i64 0, .int .u32 0, .int .u32 0, .int .u32 0, .int .u32 0, .int .u32 0, .int .u32 0, .bool false, .int .u32 0, .int .u32 0] #[.int .i64 0, .int .i64 0, .int .i64 0, .int .u32 0, .int .u32 0, .slice none 0 0, .int .u64 0]) rfl _ _ rfl rfl rfl (peer_size P10) (by kernel_rfl) (peer_cells P10) ?_; intro w101 hO101 hz101 hk101; replace hO := hO101; clear hO101 hz101 hk101)
         | (with_reducible refine own_row13 (pduC Q10 A10 Q10.body.length c10) hO rfl _ _ rfl rfl rfl (pdu_size Q10 A10 Q10.body.length c10) (by kernel_rfl) (pdu_cells Q10 A10 Q10.body.length c10) ?_; intro w102 hO102 hz102 hk102; replace hO := hO102; clear hO102 hz102 hk102))
       go_ret
       exact ⟨rfl, hO.below⟩)
  · have hg' : body.length < 1 ∨ (1 ≤ body.length ∧ 1023 < body.length) ∨ ((1 ≤ body.length ∧ body.length ≤ 1023) ∧ train < 0) ∨ (((1 ≤ body.length ∧ body.length ≤ 1023) ∧ 0 ≤ train) ∧ 16777216 ≤ train) := by omega
    rcases hg' with g | g | g | g <;>
      (go_enter Try.func4, Try.ntmps4
       go_wp2_with (go_at_call 9; (with_reducible refine (awake10_any _).mono ?_); rintro e w1 ⟨rfl, hb1⟩)
       go_ret
       exact ⟨rfl, below_of_alloc (below_of_alloc2 hb1)⟩)
set_option maxRecDepth 100000 in
theorem shakeOther_lifted (os : Os) (started : os.Started) (H : Type) (enc : TypeId × Value → H) :
    ReturnsInHanded {} Try.checked os 4 .any (Rows.shakeOtherSpec.pre6 enc Try.prog Try.f4 Rows.shakeOtherRow.domain false) (Rows.shakeOtherSpec.post enc Try.prog Try.f4 false true false false) := by
  refine returnsInHanded_of_change (C := Try.checked) own started (by kernel_rfl) Try.func4
    (ChangeSpec.witness6 (enc := enc) (C := Try.checked) false ⟨#[], #[.agg #[.int .u32 0, .int .u32 0, .int .u32 0, .int .u32 0], .agg #[.int .u32 0, .int .u32 0, .int .u32 0, .int .u32 0], .int .i64 0, .int .u32 0, .int .u32 0, .int .u32 0, .int .u32 0, .slice none 0 0], []⟩ 8 (by kernel_rfl) (by kernel_rfl) (by kernel_rfl) (by kernel_rfl)) ?_
  intro W base args ds gs before hval0 hW hcnd _
  have hval : ∀ (j : Nat) t v, Try.f4.params[j]? = some t → args[j]? = some v → Value.okWide Try.prog W .any base t v := hval0
  have hW' := hW
  obtain ⟨p, q, hA0, hV, rfl, hfz, hnd⟩ := hW
  have hA : DataW.TrodAll enc Try.prog W 0 (fun _ => true) true Try.f4.params.toList args.toList ds p := hA0
  rw [Try.params4] at hA hval
  obtain ⟨v0, vs0, d0, ds0, p0, q0, hargs, rfl, rfl, h0, r0⟩ := trodAll_cons hA
  obtain ⟨v1, vs1, d1, ds1, p1, q1, rfl, rfl, rfl, h1, r1⟩ := trodAll_cons r0
  obtain ⟨v2, vs2, d2, ds2, p2, q2, rfl, rfl, rfl, h2, r2⟩ := trodAll_cons r1
  obtain ⟨v3, vs3, d3, ds3, p3, q3, rfl, rfl, rfl, h3, r3⟩ := trodAll_cons r2
  obtain ⟨v4, vs4, d4, ds4, p4, q4, rfl, rfl, rfl, h4, r4⟩ := trodAll_cons r3
  obtain ⟨v5, vs5, d5, ds5, p5, q5, rfl, rfl, rfl, h5, r5⟩ := trodAll_cons r4
  obtain ⟨v6, vs6, d6, ds6, p6, q6, rfl, rfl, rfl, h6, r6⟩ := trodAll_cons r5
  obtain ⟨v7, vs7, d7, ds7, p7, q7, rfl, rfl, rfl, h7, r7⟩ := trodAll_cons r6
  obtain ⟨rfl, rfl, rfl⟩ := trodAll_nil r7
  obtain rfl : args = #[v0, v1, v2, v3, v4, v5, v6, v7] := by cases args; simp_all
  obtain ⟨rfl, rfl⟩ := trodVars_none hV
  have k0 := h0
  have lt0 : ∀ x ∈ p0, x.block < W.heap.size := by obtain ⟨m, hm⟩ := k0; exact DataW.trod_lt m _ _ _ hm
  have k1 := h1
  have lt1 : ∀ x ∈ p1, x.block < W.heap.size := by obtain ⟨m, hm⟩ := k1; exact DataW.trod_lt m _ _ _ hm
  have k2 := h2
  have lt2 : ∀ x ∈ p2, x.block < W.heap.size := by obtain ⟨m, hm⟩ := k2; exact DataW.trod_lt m _ _ _ hm
  have k3 := h3
  have lt3 : ∀ x ∈ p3, x.block < W.heap.size := by obtain ⟨m, hm⟩ := k3; exact DataW.trod_lt m _ _ _ hm
  have k4 := h4
  have lt4 : ∀ x ∈ p4, x.block < W.heap.size := by obtain ⟨m, hm⟩ := k4; exact DataW.trod_lt m _ _ _ hm
  have k5 := h5
  have lt5 : ∀ x ∈ p5, x.block < W.heap.size := by obtain ⟨m, hm⟩ := k5; exact DataW.trod_lt m _ _ _ hm
  have k6 := h6
  have lt6 : ∀ x ∈ p6, x.block < W.heap.size := by obtain ⟨m, hm⟩ := k6; exact DataW.trod_lt m _ _ _ hm
  have k7 := h7
  have lt7 : ∀ x ∈ p7, x.block < W.heap.size := by obtain ⟨m, hm⟩ := k7; exact DataW.trod_lt m _ _ _ hm
  obtain ⟨a0, rfl⟩ := open_key (hval 0 24 v0 rfl rfl) h0
  obtain ⟨a1, rfl⟩ := open_key (hval 1 24 v1 rfl rfl) h1
  obtain ⟨a2, rfl, _, _, w2⟩ := open_int Try.underlying3 (hval 2 3 v2 rfl rfl) h2
  obtain ⟨a3, rfl⟩ := open_q32 (hval 3 22 v3 rfl rfl) h3
  obtain ⟨a4, rfl⟩ := open_q32 (hval 4 22 v4 rfl rfl) h4
  obtain ⟨a5, rfl⟩ := open_q32 (hval 5 22 v5 rfl rfl) h5
  obtain ⟨a6, rfl⟩ := open_q32 (hval 6 22 v6 rfl rfl) h6
  obtain ⟨s7, b7⟩ := open_bytes (hval 7 27 v7 rfl rfl) h7
  clear hA0 hval0
  refine (shakeOther_walk a0 a1 a2 (bounds_i64 w2).1 (bounds_i64 w2).2 a3 a4 a5 a6 v7 s7 W b7).mono fun e W' ⟨he, bel⟩ => ?_
  subst he
  exact ⟨_, rfl, _, _, _, [], _, [], hW', trodAll_mk1 (shut_bool Try.underlying4 _), (trodAll_cons_mk (Below.trod laidOut (by kernel_rfl) (of_decide_eq_true (by kernel_rfl)) k0 bel lt0) (trodAll_cons_mk (Below.trod laidOut (by kernel_rfl) (of_decide_eq_true (by kernel_rfl)) k1 bel lt1) (trodAll_cons_mk (Below.trod laidOut (by kernel_rfl) (of_decide_eq_true (by kernel_rfl)) k2 bel lt2) (trodAll_cons_mk (Below.trod laidOut (by kernel_rfl) (of_decide_eq_true (by kernel_rfl)) k3 bel lt3) (trodAll_cons_mk (Below.trod laidOut (by kernel_rfl) (of_decide_eq_true (by kernel_rfl)) k4 bel lt4) (trodAll_cons_mk (Below.trod laidOut (by kernel_rfl) (of_decide_eq_true (by kernel_rfl)) k5 bel lt5) (trodAll_cons_mk (Below.trod laidOut (by kernel_rfl) (of_decide_eq_true (by kernel_rfl)) k6 bel lt6) (trodAll_cons_mk (Below.trod laidOut (by kernel_rfl) (of_decide_eq_true (by kernel_rfl)) k7 bel lt7) trodAll_mk0)))))))), rfl, bel.frame _, fun h => by cases h⟩

theorem shakeOther_over : Rows.shakeOtherRow.holds Try.pinned (OpenSpec.ofChange Rows.shakeOtherSpec) :=
  OpenClaim.holds_of_wide 4 Try.f4 rfl rfl rfl rfl rfl rfl rfl ⟨rfl, rfl, rfl, rfl, rfl⟩ rfl rfl rfl rfl rfl (by kernel_rfl) Try.func4 (by kernel_rfl)
    (of_decide_eq_true (by kernel_rfl)) (by unfold Func.isWrapper; rw [if_neg (of_decide_eq_false (by kernel_rfl))]; exact ⟨rfl, rfl⟩)
    (fun os started H enc _ => shakeOther_lifted os started H enc)

/-- THE STATEMENT. -/
theorem shakeOther_holds : Rows.ShakeOtherSaid := shakeOther_over
end Go.Proofs.Ytnngknmmokajgaa
