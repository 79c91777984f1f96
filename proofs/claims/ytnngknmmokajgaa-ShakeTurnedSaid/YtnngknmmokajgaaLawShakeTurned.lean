/- ShakeTurned: what has one byte turned is not taken. -/
import Derived.Test.YtnngknmmokajgaaAwake10
import Derived.Test.YtnngknmmokajgaaPduIn
import Derived.Test.YtnngknmmokajgaaShakeIn
import Derived.Test.YtnngknmmokajgaaShakeClose
import Derived.Test.YtnngknmmokajgaaShakeTurned
set_option linter.unusedSimpArgs false
set_option linter.unusedVariables false
namespace Go.Proofs.Ytnngknmmokajgaa
open Go.ChangeShapes Go.WideShapes Go.ChangeAt Go.RowKit
open Go.ChangeMaps (open_string shut_string)

set_option maxRecDepth 20000 in
set_option maxHeartbeats 16000000 in
theorem shakeTurned_walk (base : K4) (train : Int) (tlo : -9223372036854775808 ≤ train) (thi : train ≤ 9223372036854775807) (a b : BitVec 32) (v : Value) (body : List UInt8) (at_ : Int) (alo : -9223372036854775808 ≤ at_) (ahi : at_ ≤ 9223372036854775807) (by_ : UInt8) (w : World) (hv : IsBytes body v w) : Calls Try.prog 8 #[.agg #[q32 base.k0, q32 base.k1, q32 base.k2, q32 base.k3], .int .i64 train, q32 a, q32 b, v, .int .i64 at_, q8 by_] w fun e w' => e = .returned (.bool true) ∧ Below w.heap.size w w' := by
  obtain ⟨A, c0, rfl, hB⟩ := hv
  have hl := hB.len_le
  have hby : ∀ t, binOp .eql t (q8 by_) (.int .u8 0) = pure (.bool (by_ == 0)) := fun t => q8_eql t by_ 0
  by_cases hg : (1 ≤ body.length ∧ body.length ≤ 1023 ∧ 0 ≤ train ∧ train < 16777216) ∧ by_ ≠ 0
  · obtain ⟨⟨g1, g2, g3, g4⟩, hb0⟩ := hg
    have hb1' : (by_ == 0) = false := by simpa using hb0
    have hbo := fun W => both_k base train a b W g3 g4
    have hda : ∀ W, Bytes W A c0 body → Calls Try.prog 20 #[.agg (peerC (endX base train a b)), .slice A body.length c0] W fun e w' => ∃ A' c', e = .returned (.tuple #[.agg (pduC (sent7 (Derive base a b) 0 train b body) A' body.length c'), .int .i64 0]) ∧ Bytes w' A' c' body ∧ Below W.heap.size W w' := fun W h => by
      obtain ⟨e1, e2⟩ := data_up (endX_up base train a b) g3 g4 body g1 g2
      have := shdata_k (endX base train a b) body A body.length c0 W rfl h (by omega)
      rw [e1, e2] at this
      exact this
    have hm5 := may_mk5 0 train b body g3 g4 (by decide) (by decide) g1 g2
    have hm2 := may_mk2 train a b g3 g4
    have ht1 : ∀ W A1 c1, Bytes W A1 c1 body → Calls Try.prog 28 #[.agg (pduC (sent7 (Derive base a b) 0 train b body) A1 body.length c1), .int .i64 at_, q8 by_] W fun e w' => ∃ t is A' c', e = .returned (.tuple #[.agg (pduC t A' t.body.length c'), .bool is]) ∧ (is = true → right7 (Derive base a b) t = false ∧ t.body.length ≤ 2000 ∧ Bytes w' A' c' t.body) ∧ Below W.heap.size W w' := fun W A1 c1 h =>
      turned_k (Derive base a b) (sent7 (Derive base a b) 0 train b body) (may_sealed _ _ hm5 n51) (right_sealed _ _ hm5 n51) A1 body.length c1 W rfl h (by show body.length ≤ 2000; omega) at_ by_ hb0
    have ht2 : ∀ W A1 c1, (∀ W, Bytes W A1 c1 []) → Calls Try.prog 28 #[.agg (pduC (ans7 base train a b) A1 0 c1), .int .i64 at_, q8 by_] W fun e w' => ∃ t is A' c', e = .returned (.tuple #[.agg (pduC t A' t.body.length c'), .bool is]) ∧ (is = true → right7 base t = false ∧ t.body.length ≤ 2000 ∧ Bytes w' A' c' t.body) ∧ Below W.heap.size W w' := fun W A1 c1 h =>
      turned_k base (ans7 base train a b) (may_sealed _ _ hm2 n21) (right_sealed _ _ hm2 n21) A1 0 c1 W rfl (h W) (by show (0 : Nat) ≤ 2000; decide) at_ by_ hb0
    have hta : ∀ W t A1 c1, right7 (Derive base a b) t = false ∧ t.body.length ≤ 2000 ∧ True → Bytes W A1 c1 t.body → Calls Try.prog 21 #[.agg (peerC (endY base train a b)), .agg (pduC t A1 t.body.length c1)] W fun e w' => ∃ v r, e = .returned (.tuple #[v, .int .i64 r]) ∧ (r == 0) = false ∧ Below W.heap.size W w' := fun W t A1 c1 h hb => by
      have := shtake_k (endY base train a b) t A1 t.body.length c1 W rfl hb h.2.1
      have hw := taken_wrong (endY base train a b) t 5 h.1
      refine this.mono ?_
      rintro e w' ⟨v, rfl, _, hb⟩
      exact ⟨v, _, rfl, by simpa using hw, hb⟩
    have hcl : ∀ W t A1 c1, right7 (Derive base a b) t = false ∧ t.body.length ≤ 2000 ∧ True → Bytes W A1 c1 t.body → Calls Try.prog 26 #[.agg (peerC (endY base train a b)), .agg (pduC t A1 t.body.length c1)] W fun e w' => ∃ v r, e = .returned (.tuple #[.agg (peerC v), .int .i64 r]) ∧ (r == 0) = false ∧ Below W.heap.size W w' := fun W t A1 c1 h hb => by
      have := shclose_k (endY base train a b) t A1 t.body.length c1 W rfl hb h.2.1
      have hw := taken_wrong (endY base train a b) t 6 h.1
      refine this.mono ?_
      rintro e w' ⟨rfl, hb⟩
      exact ⟨_, _, rfl, by simpa using hw, hb⟩
    have hask : ∀ W, Calls Try.prog 10 #[.agg (peerC (endX base train a b)), q32 a] W fun e w' => ∃ A' c', e = .returned (.tuple #[.agg (peerC (asked10 train base a)), .agg (pduC (ask7 train a) A' 0 c'), .int .i64 0]) ∧ (∀ W, Bytes W A' c' []) ∧ Below W.heap.size W w' := fun W => by
      obtain ⟨e1, e2, e3⟩ := ask_up base train a b g3 g4
      have := shask_k (endX base train a b) a W
      rw [e1, e2, e3] at this
      exact this.mono fun e w' h => ret_nil rfl h
    have hans : ∀ W A1 c1, (∀ W, Bytes W A1 c1 []) → Calls Try.prog 13 #[.agg (peerC (endY base train a b)), .agg (pduC (ask7 train a) A1 0 c1), q32 b] W fun e w' => ∃ A' c', e = .returned (.tuple #[.agg (peerC (⟨1, train, base, 2, a, b, Derive base a b, true, a, b⟩ : Peer10)), .agg (pduC (ans7 base train a b) A' 0 c'), .int .i64 0]) ∧ (∀ W, Bytes W A' c' []) ∧ Below W.heap.size W w' := fun W A1 c1 h => by
      obtain ⟨e1, e2, e3⟩ := answer_up base train a b g3 g4 a b
      have := shanswer_k (endY base train a b) (ask7 train a) b A1 0 c1 W rfl (h W) (by show (0 : Nat) ≤ 2000; decide)
      unfold ask7 at this
      rw [e1, e2, e3] at this
      exact this.mono fun e w' h => ret_nil rfl h
    have hcon : ∀ W t A1 c1, right7 base t = false ∧ t.body.length ≤ 2000 ∧ Bytes W A1 c1 t.body → Calls Try.prog 15 #[.agg (peerC (asked10 train base a)), .agg (pduC t A1 t.body.length c1)] W fun e w' => ∃ P Q A' c' r, e = .returned (.tuple #[.agg (peerC P), .agg (pduC Q A' Q.body.length c'), .int .i64 r]) ∧ (r != 0) = true ∧ Below W.heap.size W w' := fun W t A1 c1 h => by
      have := shconfirm_k (asked10 train base a) t A1 t.body.length c1 W rfl h.2.2 h.2.1
      have hw := confirm_wrong (asked10 train base a) t h.1
      exact this.mono fun e w' ⟨A', c', h1, _, h3⟩ => ⟨_, _, A', c', _, h1, by simpa using hw, h3⟩
    have hO : Own w _ [_] := (Own.nil w).new0 24 #[q32 base.k0, q32 base.k1, q32 base.k2, q32 base.k3]
    clear hm5 hm2
    go_enter Try.func8, Try.ntmps8
    go_wp2_with (first
      | (go_at_call 9; (with_reducible refine (awake10_any _).mono ?_); rintro e w1 ⟨rfl, hb1⟩; replace hO := hO.grow hb1)
      | ((with_reducible refine own_loadg0 hO ?_ _ rfl rfl _ Try.underlying24 rfl (by kernel_rfl) ?_); (· first | rfl | (simp [Region.wanted, yielded]; done)))
      | (go_at_call 19; (with_reducible refine (hbo _).mono ?_); rintro e w2 ⟨rfl, hb2⟩; replace hO := hO.grow hb2)
      | (with_reducible refine own_row1 (peerC (endX base train a b)) (hO.two1 26 26 #[.int .i64 0, .int .i64 0, .int .u32 0, .int .u32 0, .int .u32 0, .int .u32 0, .int .i64 0, .int .u32 0, .int .u32 0, .int .u32 0, .int .u32 0, .int .u32 0, .int .u32 0, .bool false, .int .u32 0, .int .u32 0] #[.int .i64 0, .int .i64 0, .int .u32 0, .int .u32 0, .int .u32 0, .int .u32 0, .int .i64 0, .int .u32 0, .int .u32 0, .int .u32 0, .int .u32 0, .int .u32 0, .int .u32 0, .bool false, .int .u32 0, .int .u32 0]) rfl _ _ rfl rfl rfl (peer_size (endX base train a b)) (by kernel_rfl) (peer_cells (endX base train a b)) ?_; intro w21 hO21 hz21 hk21; replace hO := hO21; clear hO21 hz21 hk21)
      | (with_reducible refine own_row2 (peerC (endY base train a b)) hO rfl _ _ rfl rfl rfl (peer_size (endY base train a b)) (by kernel_rfl) (peer_cells (endY base train a b)) ?_; intro w22 hO22 hz22 hk22; replace hO := hO22; clear hO22 hz22 hk22)
      | ((with_reducible refine own_loadg1 hO ?_ _ rfl rfl _ Try.underlying26 rfl (peer_size _) ?_); (· first | rfl | (simp [Region.wanted, yielded]; done)))
      | ((with_reducible refine own_loadg2 hO ?_ _ rfl rfl _ Try.underlying26 rfl (peer_size _) ?_); (· first | rfl | (simp [Region.wanted, yielded]; done)))
      | ((with_reducible refine own_loadg5 hO ?_ _ rfl rfl _ Try.underlying26 rfl (peer_size _) ?_); (· first | rfl | (simp [Region.wanted, yielded]; done)))
      | ((with_reducible refine own_loadg6 hO ?_ _ rfl rfl _ Try.underlying26 rfl (peer_size _) ?_); (· first | rfl | (simp [Region.wanted, yielded]; done)))
      | ((with_reducible refine own_loadg3 hO ?_ _ rfl rfl _ Try.underlying30 rfl (pdu_size _ _ _ _) ?_); (· first | rfl | (simp [Region.wanted, yielded]; done)))
      | ((with_reducible refine own_loadg4 hO ?_ _ rfl rfl _ Try.underlying30 rfl (pdu_size _ _ _ _) ?_); (· first | rfl | (simp [Region.wanted, yielded]; done)))
      | ((with_reducible refine own_loadg6 hO ?_ _ rfl rfl _ Try.underlying30 rfl (pdu_size _ _ _ _) ?_); (· first | rfl | (simp [Region.wanted, yielded]; done)))
      | ((with_reducible refine own_loadg7 hO ?_ _ rfl rfl _ Try.underlying30 rfl (pdu_size _ _ _ _) ?_); (· first | rfl | (simp [Region.wanted, yielded]; done)))
      | ((with_reducible refine own_loadg8 hO ?_ _ rfl rfl _ Try.underlying30 rfl (pdu_size _ _ _ _) ?_); (· first | rfl | (simp [Region.wanted, yielded]; done)))
      | ((with_reducible refine own_loadg9 hO ?_ _ rfl rfl _ Try.underlying30 rfl (pdu_size _ _ _ _) ?_); (· first | rfl | (simp [Region.wanted, yielded]; done)))
      | ((with_reducible refine own_loadg10 hO ?_ _ rfl rfl _ Try.underlying30 rfl (pdu_size _ _ _ _) ?_); (· first | rfl | (simp [Region.wanted, yielded]; done)))
      | (go_at_call 20; (with_reducible refine (hda _ (hB.below hO.below)).mono ?_); rintro e w3 ⟨A3, c3, rfl, hB3, hb3⟩; replace hO := hO.grow hb3)
      | (with_reducible refine own_row3 (pduC (sent7 (Derive base a b) 0 train b body) A3 body.length c3) (hO.new3 30 #[.int .i64 0, .int .i64 0, .int .i64 0, .int .u32 0, .int .u32 0, .slice none 0 0, .int .u64 0]) rfl _ _ rfl rfl rfl (pdu_size (sent7 (Derive base a b) 0 train b body) A3 body.length c3) (by kernel_rfl) (pdu_cells (sent7 (Derive base a b) 0 train b body) A3 body.length c3) ?_; intro w31 hO31 hz31 hk31; have hB31 := (hB3.alloc _).apart (Blk.new w3 _ _) (by kernel_rfl) hz31 hk31; replace hO := hO31; clear hO31 hz31 hk31)
      | (go_at_call 28; (with_reducible refine (ht1 _ A3 c3 hB31).mono ?_); rintro e w4 ⟨t1, i1, A4, c4, rfl, h4, hb4⟩; replace hO := hO.grow hb4)
      | (with_reducible refine own_row4 (pduC t1 A4 t1.body.length c4) (hO.new4 30 #[.int .i64 0, .int .i64 0, .int .i64 0, .int .u32 0, .int .u32 0, .slice none 0 0, .int .u64 0]) rfl _ _ rfl rfl rfl (pdu_size t1 A4 t1.body.length c4) (by kernel_rfl) (pdu_cells t1 A4 t1.body.length c4) ?_; intro w41 hO41 hz41 hk41; have h41 := (fun (h : i1 = true) => (And.intro (h4 h).1 (And.intro (h4 h).2.1 trivial) : right7 (Derive base a b) t1 = false ∧ t1.body.length ≤ 2000 ∧ True)); have hB41 := (fun (h : i1 = true) => (((h4 h).2.2).alloc _).apart (Blk.new w4 _ _) (by kernel_rfl) hz41 hk41); replace hO := hO41; clear hO41 hz41 hk41)
      | (go_at_call 21; (with_reducible refine (hta _ t1 A4 c4 (h41 (by assumption)) (hB41 (by assumption))).mono ?_); rintro e w5 ⟨v5, r5, rfl, hr5, hb5⟩; have hB45 := (hB41 (by assumption)).below hb5; replace hO := hO.grow hb5)
      | (go_at_call 26; (with_reducible refine (hcl _ t1 A4 c4 (h41 (by assumption)) hB45).mono ?_); rintro e w6 ⟨P6, r6, rfl, hr6, hb6⟩; replace hO := hO.grow hb6)
      | (with_reducible refine own_row5 (peerC P6) (hO.new5 26 #[.int .i64 0, .int .i64 0, .int .u32 0, .int .u32 0, .int .u32 0, .int .u32 0, .int .i64 0, .int .u32 0, .int .u32 0, .int .u32 0, .int .u32 0, .int .u32 0, .int .u32 0, .bool false, .int .u32 0, .int .u32 0]) rfl _ _ rfl rfl rfl (peer_size P6) (by kernel_rfl) (peer_cells P6) ?_; intro w61 hO61 hz61 hk61; replace hO := hO61; clear hO61 hz61 hk61)
      | (go_at_call 10; (with_reducible refine (hask _).mono ?_); rintro e w7 ⟨A7, c7, rfl, hN7, hb7⟩; replace hO := hO.grow hb7)
      | (with_reducible refine own_row5 (peerC (asked10 train base a)) (hO.two5 26 30 #[.int .i64 0, .int .i64 0, .int .u32 0, .int .u32 0, .int .u32 0, .int .u32 0, .int .i64 0, .int .u32 0, .int .u32 0, .int .u32 0, .int .u32 0, .int .u32 0, .int .u32 0, .bool false, .int .u32 0, .int .u32 0] #[.int .i64 0, .int .i64 0, .int .i64 0, .int .u32 0, .int .u32 0, .slice none 0 0, .int .u64 0]) rfl _ _ rfl rfl rfl (peer_size (asked10 train base a)) (by kernel_rfl) (peer_cells (asked10 train base a)) ?_; intro w71 hO71 hz71 hk71; replace hO := hO71; clear hO71 hz71 hk71)
      | (with_reducible refine own_row6 (pduC (ask7 train a) A7 0 c7) hO rfl _ _ rfl rfl rfl (pdu_size (ask7 train a) A7 0 c7) (by kernel_rfl) (pdu_cells (ask7 train a) A7 0 c7) ?_; intro w72 hO72 hz72 hk72; replace hO := hO72; clear hO72 hz72 hk72)
      | (with_reducible refine own_row6 (peerC (asked10 train base a)) (hO.two6 26 30 #[.int .i64 0, .int .i64 0, .int .u32 0, .int .u32 0, .int .u32 0, .int .u32 0, .int .i64 0, .int .u32 0, .int .u32 0, .int .u32 0, .int .u32 0, .int .u32 0, .int .u32 0, .bool false, .int .u32 0, .int .u32 0] #[.int .i64 0, .int .i64 0, .int .i64 0, .int .u32 0, .int .u32 0, .slice none 0 0, .int .u64 0]) rfl _ _ rfl rfl rfl (peer_size (asked10 train base a)) (by kernel_rfl) (peer_cells (asked10 train base a)) ?_; intro w71 hO71 hz71 hk71; replace hO := hO71; clear hO71 hz71 hk71)
      | (with_reducible refine own_row7 (pduC (ask7 train a) A7 0 c7) hO rfl _ _ rfl rfl rfl (pdu_size (ask7 train a) A7 0 c7) (by kernel_rfl) (pdu_cells (ask7 train a) A7 0 c7) ?_; intro w72 hO72 hz72 hk72; replace hO := hO72; clear hO72 hz72 hk72)
      | (go_at_call 13; (with_reducible refine (hans _ A7 c7 hN7).mono ?_); rintro e w8 ⟨A8, c8, rfl, hN8, hb8⟩; replace hO := hO.grow hb8)
      | (with_reducible refine own_row7 (peerC (⟨1, train, base, 2, a, b, Derive base a b, true, a, b⟩ : Peer10)) (hO.two7 26 30 #[.int .i64 0, .int .i64 0, .int .u32 0, .int .u32 0, .int .u32 0, .int .u32 0, .int .i64 0, .int .u32 0, .int .u32 0, .int .u32 0, .int .u32 0, .int .u32 0, .int .u32 0, .bool false, .int .u32 0, .int .u32 0] #[.int .i64 0, .int .i64 0, .int .i64 0, .int .u32 0, .int .u32 0, .slice none 0 0, .int .u64 0]) rfl _ _ rfl rfl rfl (peer_size (⟨1, train, base, 2, a, b, Derive base a b, true, a, b⟩ : Peer10)) (by kernel_rfl) (peer_cells (⟨1, train, base, 2, a, b, Derive base a b, true, a, b⟩ : Peer10)) ?_; intro w81 hO81 hz81 hk81; replace hO := hO81; clear hO81 hz81 hk81)
      | (with_reducible refine own_row8 (pduC (ans7 base train a b) A8 0 c8) hO rfl _ _ rfl rfl rfl (pdu_size (ans7 base train a b) A8 0 c8) (by kernel_rfl) (pdu_cells (ans7 base train a b) A8 0 c8) ?_; intro w82 hO82 hz82 hk82; replace hO := hO82; clear hO82 hz82 hk82)
      | (with_reducible refine own_row8 (peerC (⟨1, train, base, 2, a, b, Derive base a b, true, a, b⟩ : Peer10)) (hO.two8 26 30 #[.int .i64 0, .int .i64 0, .int .u32 0, .int .u32 0, .int .u32 0, .int .u32 0, .int .i64 0, .int .u32 0, .int .u32 0, .int .u32 0, .int .u32 0, .int .u32 0, .int .u32 0, .bool false, .int .u32 0, .int .u32 0] #[.int .i64 0, .int .i64 0, .int .i64 0, .int .u32 0, .int .u32 0, .slice none 0 0, .int .u64 0]) rfl _ _ rfl rfl rfl (peer_size (⟨1, train, base, 2, a, b, Derive base a b, true, a, b⟩ : Peer10)) (by kernel_rfl) (peer_cells (⟨1, train, base, 2, a, b, Derive base a b, true, a, b⟩ : Peer10)) ?_; intro w81 hO81 hz81 hk81; replace hO := hO81; clear hO81 hz81 hk81)
      | (with_reducible refine own_row9 (pduC (ans7 base train a b) A8 0 c8) hO rfl _ _ rfl rfl rfl (pdu_size (ans7 base train a b) A8 0 c8) (by kernel_rfl) (pdu_cells (ans7 base train a b) A8 0 c8) ?_; intro w82 hO82 hz82 hk82; replace hO := hO82; clear hO82 hz82 hk82)
      | (go_at_call 28; (with_reducible refine (ht2 _ A8 c8 hN8).mono ?_); rintro e w9 ⟨t2, i2, A9, c9, rfl, h9, hb9⟩; replace hO := hO.grow hb9)
      | (with_reducible refine own_row9 (pduC t2 A9 t2.body.length c9) (hO.new9 30 #[.int .i64 0, .int .i64 0, .int .i64 0, .int .u32 0, .int .u32 0, .slice none 0 0, .int .u64 0]) rfl _ _ rfl rfl rfl (pdu_size t2 A9 t2.body.length c9) (by kernel_rfl) (pdu_cells t2 A9 t2.body.length c9) ?_; intro w91 hO91 hz91 hk91; have h91 := (fun (h : i2 = true) => And.intro (h9 h).1 (And.intro (h9 h).2.1 ((((h9 h).2.2).alloc _).apart (Blk.new w9 _ _) (by kernel_rfl) hz91 hk91))); replace hO := hO91; clear hO91 hz91 hk91)
      | (with_reducible refine own_row10 (pduC t2 A9 t2.body.length c9) (hO.new10 30 #[.int .i64 0, .int .i64 0, .int .i64 0, .int .u32 0, .int .u32 0, .slice none 0 0, .int .u64 0]) rfl _ _ rfl rfl rfl (pdu_size t2 A9 t2.body.length c9) (by kernel_rfl) (pdu_cells t2 A9 t2.body.length c9) ?_; intro w91 hO91 hz91 hk91; have h91 := (fun (h : i2 = true) => And.intro (h9 h).1 (And.intro (h9 h).2.1 ((((h9 h).2.2).alloc _).apart (Blk.new w9 _ _) (by kernel_rfl) hz91 hk91))); replace hO := hO91; clear hO91 hz91 hk91)
      | (go_at_call 15; (with_reducible refine (hcon _ t2 A9 c9 (h91 (by assumption))).mono ?_); rintro e w10 ⟨P10, Q10, A10, c10, r10, rfl, hr10, hb10⟩; replace hO := hO.grow hb10)
      | (with_reducible refine own_row10 (peerC P10) (hO.two10 26 30 #[.int .i64 0, .int .i64 0, .int .u32 0, .int .u32 0, .int .u32 0, .int .u32 0, .int .i64 0, .int .u32 0, .int .u32 0, .int .u32 0, .int .u32 0, .int .u32 0, .int .u32 0, .bool false, .int .u32 0, .int .u32 0] #[.int .i64 0, .int .i64 0, .int .i64 0, .int .u32 0, .int .u32 0, .slice none 0 0, .int .u64 0]) rfl _ _ rfl rfl rfl (peer_size P10) (by kernel_rfl) (peer_cells P10) ?_; intro w101 hO101 hz101 hk101; replace hO := hO101; clear hO101 hz101 hk101)
      | (with_reducible refine own_row11 (pduC Q10 A10 Q10.body.length c10) hO rfl _ _ rfl rfl rfl (pdu_size Q10 A10 Q10.body.length c10) (by kernel_rfl) (pdu_cells Q10 A10 Q10.body.length c10) ?_; intro w102 hO102 hz102 hk102; replace hO := hO102; clear hO102 hz102 hk102)
      | (with_reducible refine own_row11 (peerC P10) (hO.two11 26 30 #[.int .i64 0, .int .i64 0, .int .u32 0, .int .u32 0, .int .u32 0, .int .u32 0, .int .i64 0, .int .u32 0, .int .u32 0, .int .u32 0, .int .u32 0, .int .u32 0, .int .u32 0, .bool false, .int .u32 0, .int .u32 0] #[.int .i64 0, .int .i64 0, .int .i64 0, .int .u32 0, .int .u32 0, .slice none 0 0, .int .u64 0]) rfl _ _ rfl rfl rfl (peer_size P10) (by kernel_rfl) (peer_cells P10) ?_; intro w101 hO101 hz101 hk101; replace hO := hO101; clear hO101 hz101 hk101)
      | (with_reducible refine own_row12 (pduC Q10 A10 Q10.body.length c10) hO rfl _ _ rfl rfl rfl (pdu_size Q10 A10 Q10.body.length c10) (by kernel_rfl) (pdu_cells Q10 A10 Q10.body.length c10) ?_; intro w102 hO102 hz102 hk102; replace hO := hO102; clear hO102 hz102 hk102))
    all_goals
      go_ret
      exact ⟨rfl, hO.below⟩
  · have hg' : body.length < 1 ∨ (1 ≤ body.length ∧ 1023 < body.length) ∨ ((1 ≤ body.length ∧ body.length ≤ 1023) ∧ train < 0) ∨ (((1 ≤ body.length ∧ body.length ≤ 1023) ∧ 0 ≤ train) ∧ 16777216 ≤ train) ∨ ((((1 ≤ body.length ∧ body.length ≤ 1023) ∧ 0 ≤ train) ∧ train < 16777216) ∧ (by_ == 0) = true) := by
      by_cases h : by_ = 0
      · simp only [h, beq_self_eq_true, and_true]
        omega
      · have : ¬ (1 ≤ body.length ∧ body.length ≤ 1023 ∧ 0 ≤ train ∧ train < 16777216) := fun k => hg ⟨k, h⟩
        omega
    clear hg
    rcases hg' with g | g | g | g | g <;>
      (go_enter Try.func8, Try.ntmps8
       go_wp2_with (go_at_call 9; (with_reducible refine (awake10_any _).mono ?_); rintro e w1 ⟨rfl, hb1⟩)
       go_ret
       exact ⟨rfl, below_of_alloc hb1⟩)
set_option maxRecDepth 100000 in
theorem shakeTurned_lifted (os : Os) (started : os.Started) (H : Type) (enc : TypeId × Value → H) :
    ReturnsInHanded {} Try.checked os 8 .any (Rows.shakeTurnedSpec.pre6 enc Try.prog Try.f8 Rows.shakeTurnedRow.domain false) (Rows.shakeTurnedSpec.post enc Try.prog Try.f8 false true false false) := by
  refine returnsInHanded_of_change (C := Try.checked) own started (by kernel_rfl) Try.func8
    (ChangeSpec.witness6 (enc := enc) (C := Try.checked) false ⟨#[], #[.agg #[.int .u32 0, .int .u32 0, .int .u32 0, .int .u32 0], .int .i64 0, .int .u32 0, .int .u32 0, .slice none 0 0, .int .i64 0, .int .u8 0], []⟩ 8 (by kernel_rfl) (by kernel_rfl) (by kernel_rfl) (by kernel_rfl)) ?_
  intro W base args ds gs before hval0 hW hcnd _
  have hval : ∀ (j : Nat) t v, Try.f8.params[j]? = some t → args[j]? = some v → Value.okWide Try.prog W .any base t v := hval0
  have hW' := hW
  obtain ⟨p, q, hA0, hV, rfl, hfz, hnd⟩ := hW
  have hA : DataW.TrodAll enc Try.prog W 0 (fun _ => true) true Try.f8.params.toList args.toList ds p := hA0
  rw [Try.params8] at hA hval
  obtain ⟨v0, vs0, d0, ds0, p0, q0, hargs, rfl, rfl, h0, r0⟩ := trodAll_cons hA
  obtain ⟨v1, vs1, d1, ds1, p1, q1, rfl, rfl, rfl, h1, r1⟩ := trodAll_cons r0
  obtain ⟨v2, vs2, d2, ds2, p2, q2, rfl, rfl, rfl, h2, r2⟩ := trodAll_cons r1
  obtain ⟨v3, vs3, d3, ds3, p3, q3, rfl, rfl, rfl, h3, r3⟩ := trodAll_cons r2
  obtain ⟨v4, vs4, d4, ds4, p4, q4, rfl, rfl, rfl, h4, r4⟩ := trodAll_cons r3
  obtain ⟨v5, vs5, d5, ds5, p5, q5, rfl, rfl, rfl, h5, r5⟩ := trodAll_cons r4
  obtain ⟨v6, vs6, d6, ds6, p6, q6, rfl, rfl, rfl, h6, r6⟩ := trodAll_cons r5
  obtain ⟨rfl, rfl, rfl⟩ := trodAll_nil r6
  obtain rfl : args = #[v0, v1, v2, v3, v4, v5, v6] := by cases args; simp_all
  obtain ⟨rfl, rfl⟩ := trodVars_none hV
  have k0 := h0
  have lt0 : ∀ x ∈ p0, x.block < W.heap.size := by obtain ⟨m, hm⟩ := k0; exact DataW.trod_lt m _ _ _ hm
  have k1 := h1
  have lt1 : ∀ x ∈ p1, x.block < W.heap.size := by obtain ⟨m, hm⟩ := k1; exact DataW.trod_lt m _ _ _ hm
  have k2 := h2
  have lt2 : ∀ x ∈ p2, x.block < W.heap.size := by obtain ⟨m, hm⟩ := k2; exact DataW.trod_lt m _ _ _ hm
  have k3 := h3
  have lt3 : ∀ x ∈ p3, x.block < W.heap.size := by obtain ⟨m, hm⟩ := k3; exact DataW.trod_lt m _ _ _ hm
  have k4 := h4
  have lt4 : ∀ x ∈ p4, x.block < W.heap.size := by obtain ⟨m, hm⟩ := k4; exact DataW.trod_lt m _ _ _ hm
  have k5 := h5
  have lt5 : ∀ x ∈ p5, x.block < W.heap.size := by obtain ⟨m, hm⟩ := k5; exact DataW.trod_lt m _ _ _ hm
  have k6 := h6
  have lt6 : ∀ x ∈ p6, x.block < W.heap.size := by obtain ⟨m, hm⟩ := k6; exact DataW.trod_lt m _ _ _ hm
  obtain ⟨a0, rfl⟩ := open_key (hval 0 24 v0 rfl rfl) h0
  obtain ⟨a1, rfl, _, _, w1⟩ := open_int Try.underlying3 (hval 1 3 v1 rfl rfl) h1
  obtain ⟨a2, rfl⟩ := open_q32 (hval 2 22 v2 rfl rfl) h2
  obtain ⟨a3, rfl⟩ := open_q32 (hval 3 22 v3 rfl rfl) h3
  obtain ⟨s4, b4⟩ := open_bytes (hval 4 27 v4 rfl rfl) h4
  obtain ⟨a5, rfl, _, _, w5⟩ := open_int Try.underlying3 (hval 5 3 v5 rfl rfl) h5
  obtain ⟨a6, rfl⟩ := open_q8 (hval 6 5 v6 rfl rfl) h6
  clear hA0 hval0
  refine (shakeTurned_walk a0 a1 (bounds_i64 w1).1 (bounds_i64 w1).2 a2 a3 v4 s4 a5 (bounds_i64 w5).1 (bounds_i64 w5).2 a6 W b4).mono fun e W' ⟨he, bel⟩ => ?_
  subst he
  exact ⟨_, rfl, _, _, _, [], _, [], hW', trodAll_mk1 (shut_bool Try.underlying4 _), (trodAll_cons_mk (Below.trod laidOut (by kernel_rfl) (of_decide_eq_true (by kernel_rfl)) k0 bel lt0) (trodAll_cons_mk (Below.trod laidOut (by kernel_rfl) (of_decide_eq_true (by kernel_rfl)) k1 bel lt1) (trodAll_cons_mk (Below.trod laidOut (by kernel_rfl) (of_decide_eq_true (by kernel_rfl)) k2 bel lt2) (trodAll_cons_mk (Below.trod laidOut (by kernel_rfl) (of_decide_eq_true (by kernel_rfl)) k3 bel lt3) (trodAll_cons_mk (Below.trod laidOut (by kernel_rfl) (of_decide_eq_true (by kernel_rfl)) k4 bel lt4) (trodAll_cons_mk (Below.trod laidOut (by kernel_rfl) (of_decide_eq_true (by kernel_rfl)) k5 bel lt5) (trodAll_cons_mk (Below.trod laidOut (by kernel_rfl) (of_decide_eq_true (by kernel_rfl)) k6 bel lt6) trodAll_mk0))))))), rfl, bel.frame _, fun h => by cases h⟩

theorem shakeTurned_over : Rows.shakeTurnedRow.holds Try.pinned (OpenSpec.ofChange Rows.shakeTurnedSpec) :=
  OpenClaim.holds_of_wide 8 Try.f8 rfl rfl rfl rfl rfl rfl rfl ⟨rfl, rfl, rfl, rfl, rfl⟩ rfl rfl rfl rfl rfl (by kernel_rfl) Try.func8 (by kernel_rfl)
    (of_decide_eq_true (by kernel_rfl)) (by unfold Func.isWrapper; rw [if_neg (of_decide_eq_false (by kernel_rfl))]; exact ⟨rfl, rfl⟩)
    (fun os started H enc _ => shakeTurned_lifted os started H enc)

/-- THE STATEMENT. -/
theorem shakeTurned_holds : Rows.ShakeTurnedSaid := shakeTurned_over
end Go.Proofs.Ytnngknmmokajgaa
