/- ShakePasses: two ends are made, what is sent from either is taken by the other, the end of one closes the other. -/
import Derived.Test.YtnngknmmokajgaaAwake10
import Derived.Test.YtnngknmmokajgaaPduIn
import Derived.Test.YtnngknmmokajgaaShakeIn
import Derived.Test.YtnngknmmokajgaaShakeEnd
import Derived.Test.YtnngknmmokajgaaShakeClose
set_option linter.unusedSimpArgs false
set_option linter.unusedVariables false
namespace Go.Proofs.Ytnngknmmokajgaa
open Go.ChangeShapes Go.WideShapes Go.ChangeAt Go.RowKit
open Go.ChangeMaps (open_string shut_string)

def over7 (key : K4) (dir train : Int) (b : BitVec 32) (why : UInt8) : P7 := sealed7 key ⟨6, dir, train, 0, b, [why], 0⟩
theorem keys_up (base : K4) (train : Int) (a b : BitVec 32) (W : World) : (binOp .neq 24 (.agg #[q32 (endX base train a b).key.k0, q32 (endX base train a b).key.k1, q32 (endX base train a b).key.k2, q32 (endX base train a b).key.k3]) (.agg #[q32 (endY base train a b).key.k0, q32 (endY base train a b).key.k1, q32 (endY base train a b).key.k2, q32 (endY base train a b).key.k3])).run Try.prog W = .ok (.bool false) W := run_neq_key (endX base train a b).key W
set_option maxRecDepth 20000 in
set_option maxHeartbeats 16000000 in
theorem shakePasses_walk (base : K4) (train : Int) (tlo : -9223372036854775808 ≤ train) (thi : train ≤ 9223372036854775807) (a b : BitVec 32) (v : Value) (body : List UInt8) (side : Bool) (why : UInt8) (w : World) (hv : IsBytes body v w) : Calls Try.prog 7 #[.agg #[q32 base.k0, q32 base.k1, q32 base.k2, q32 base.k3], .int .i64 train, q32 a, q32 b, v, .bool side, q8 why] w fun e w' => e = .returned (.bool true) ∧ Below w.heap.size w w' := by
  obtain ⟨A, c0, rfl, hB⟩ := hv
  have hl := hB.len_le
  by_cases hg : 1 ≤ body.length ∧ body.length ≤ 1023 ∧ 0 ≤ train ∧ train < 16777216
  · obtain ⟨g1, g2, g3, g4⟩ := hg
    have hbo := fun W => both_k base train a b W g3 g4
    have hO : Own w _ [_] := (Own.nil w).new0 24 #[q32 base.k0, q32 base.k1, q32 base.k2, q32 base.k3]
    have ek := keys_up base train a b
    cases side with
    | false =>
      have hda : ∀ W, Bytes W A c0 body → Calls Try.prog 20 #[.agg (peerC (endX base train a b)), .slice A body.length c0] W fun e w' => ∃ A' c', e = .returned (.tuple #[.agg (pduC (sent7 (Derive base a b) 0 train b body) A' body.length c'), .int .i64 0]) ∧ Bytes w' A' c' body ∧ Below W.heap.size W w' := fun W h => by
        obtain ⟨e1, e2⟩ := data_up (endX_up base train a b) g3 g4 body g1 g2
        have := shdata_k (endX base train a b) body A body.length c0 W rfl h (by omega)
        rw [e1, e2] at this
        exact this
      have hta : ∀ W A1 c1, Bytes W A1 c1 body → Calls Try.prog 21 #[.agg (peerC (endY base train a b)), .agg (pduC (sent7 (Derive base a b) 0 train b body) A1 body.length c1)] W fun e w' => ∃ A' c', e = .returned (.tuple #[.slice A' body.length c', .int .i64 0]) ∧ Bytes w' A' c' body ∧ Below W.heap.size W w' := fun W A1 c1 h => by
        obtain ⟨e1, e2⟩ := take_same (endY_up base train a b) g3 g4 0 (by decide) (by decide) (by show (0 : Int) ≠ (if (1 : Int) = 0 then 0 else 1); decide) body g1 g2
        have := shtake_k (endY base train a b) (sent7 (Derive base a b) 0 train b body) A1 body.length c1 W rfl h (by show body.length ≤ 2000; omega)
        rw [show taken10 (endY base train a b) (sent7 (Derive base a b) 0 train b body) 5 = 0 from e1] at this
        refine this.mono ?_
        rintro e w' ⟨v, rfl, hv, hb⟩
        rw [show takeB (endY base train a b) (sent7 (Derive base a b) 0 train b body) = body from e2] at hv
        obtain ⟨A', c', rfl, hB⟩ := hv
        exact ⟨A', c', rfl, hB, hb⟩
      have hto : ∀ W A1 c1, Bytes W A1 c1 body → Calls Try.prog 21 #[.agg (peerC (endX base train a b)), .agg (pduC (sent7 (Derive base a b) 0 train b body) A1 body.length c1)] W fun e w' => ∃ v, e = .returned (.tuple #[v, .int .i64 1]) ∧ Below W.heap.size W w' := fun W A1 c1 h => by
        have := shtake_k (endX base train a b) (sent7 (Derive base a b) 0 train b body) A1 body.length c1 W rfl h (by show body.length ≤ 2000; omega)
        rw [show taken10 (endX base train a b) (sent7 (Derive base a b) 0 train b body) 5 = 1 from take_own (Derive base a b) train b body 5] at this
        exact this.mono fun e w' ⟨v, h1, _, h3⟩ => ⟨v, h1, h3⟩
      have hen : ∀ W, Calls Try.prog 24 #[.agg (peerC (endX base train a b)), q8 why] W fun e w' => ∃ A' c', e = .returned (.tuple #[.agg (peerC (closed10 (endX base train a b))), .agg (pduC (over7 (Derive base a b) 0 train b why) A' 1 c'), .int .i64 0]) ∧ Bytes w' A' c' [why] ∧ Below W.heap.size W w' := fun W => by
        obtain ⟨e1, e2, e3⟩ := end_up (endX_up base train a b) g3 g4 why
        have := shend_k (endX base train a b) why W
        rw [e1, e2, e3] at this
        exact this
      have hcl : ∀ W A1 c1, Bytes W A1 c1 [why] → Calls Try.prog 26 #[.agg (peerC (endY base train a b)), .agg (pduC (over7 (Derive base a b) 0 train b why) A1 1 c1)] W fun e w' => e = .returned (.tuple #[.agg (peerC (closed10 (endY base train a b))), .int .i64 0]) ∧ Below W.heap.size W w' := fun W A1 c1 h => by
        obtain ⟨e1, e2⟩ := close_same (endY_up base train a b) g3 g4 0 (by decide) (by decide) (by show (0 : Int) ≠ (if (1 : Int) = 0 then 0 else 1); decide) why
        have := shclose_k (endY base train a b) (over7 (Derive base a b) 0 train b why) A1 1 c1 W rfl h (by show (1 : Nat) ≤ 2000; decide)
        rw [show closeP (endY base train a b) (over7 (Derive base a b) 0 train b why) = closed10 (endY base train a b) from e2, show taken10 (endY base train a b) (over7 (Derive base a b) 0 train b why) 6 = 0 from e1] at this
        exact this
      have hdc : ∀ W, Bytes W A c0 body → Calls Try.prog 20 #[.agg (peerC (closed10 (endX base train a b))), .slice A body.length c0] W fun e w' => ∃ A' c', e = .returned (.tuple #[.agg (pduC P7.none_ A' 0 c'), .int .i64 6]) ∧ Below W.heap.size W w' := fun W h => by
        obtain ⟨e1, e2⟩ := data_closed (endX base train a b) body
        have := shdata_k (closed10 (endX base train a b)) body A body.length c0 W rfl h (by omega)
        rw [e1, e2] at this
        exact this.mono fun e w' ⟨A', c', h1, _, h3⟩ => ⟨A', c', h1, h3⟩
      go_enter Try.func7, Try.ntmps7
      go_wp2_with (first
        | (go_at_call 9; (with_reducible refine (awake10_any _).mono ?_); rintro e w1 ⟨rfl, hb1⟩; replace hO := hO.grow hb1)
        | ((with_reducible refine own_loadg0 hO ?_ _ rfl rfl _ Try.underlying24 rfl (by kernel_rfl) ?_); (· first | rfl | (simp [Region.wanted, yielded]; done)))
        | (go_at_call 19; (with_reducible refine (hbo _).mono ?_); rintro e w2 ⟨rfl, hb2⟩; replace hO := hO.grow hb2)
        | (with_reducible refine own_row1 (peerC (endX base train a b)) (hO.two1 26 26 #[.int .i64 0, .int .i64 0, .int .u32 0, .int .u32 0, .int .u32 0, .int .u32 0, .int .i64 0, .int .u32 0, .int .u32 0, .int .u32 0, .int .u32 0, .int .u32 0, .int .u32 0, .bool false, .int .u32 0, .int .u32 0] #[.int .i64 0, .int .i64 0, .int .u32 0, .int .u32 0, .int .u32 0, .int .u32 0, .int .i64 0, .int .u32 0, .int .u32 0, .int .u32 0, .int .u32 0, .int .u32 0, .int .u32 0, .bool false, .int .u32 0, .int .u32 0]) rfl _ _ rfl rfl rfl (peer_size (endX base train a b)) (by kernel_rfl) (peer_cells (endX base train a b)) ?_; intro w21 hO21 hz21 hk21; replace hO := hO21; clear hO21 hz21 hk21)
        | (with_reducible refine own_row2 (peerC (endY base train a b)) hO rfl _ _ rfl rfl rfl (peer_size (endY base train a b)) (by kernel_rfl) (peer_cells (endY base train a b)) ?_; intro w22 hO22 hz22 hk22; replace hO := hO22; go_loud (have f1_6 : w22.cell? ⟨w2.heap.size, 6, none⟩ = some (.int .i64 2) := (hO.b1.cell 6).trans rfl; have f1_7 : w22.cell? ⟨w2.heap.size, 7, none⟩ = some (q32 a) := (hO.b1.cell 7).trans rfl; have f1_8 : w22.cell? ⟨w2.heap.size, 8, none⟩ = some (q32 b) := (hO.b1.cell 8).trans rfl; have f2_6 : w22.cell? ⟨w2.heap.size + 1, 6, none⟩ = some (.int .i64 2) := (hO.b2.cell 6).trans rfl; have f2_7 : w22.cell? ⟨w2.heap.size + 1, 7, none⟩ = some (q32 a) := (hO.b2.cell 7).trans rfl; have f2_8 : w22.cell? ⟨w2.heap.size + 1, 8, none⟩ = some (q32 b) := (hO.b2.cell 8).trans rfl); clear hO22 hz22 hk22)
        | ((with_reducible refine own_key hO.b1 ?_ _ rfl rfl _ Try.underlying24 rfl (by kernel_rfl) ?_); (· first | rfl | (simp [Region.wanted, yielded]; done)))
        | ((with_reducible refine own_key hO.b2 ?_ _ rfl rfl _ Try.underlying24 rfl (by kernel_rfl) ?_); (· first | rfl | (simp [Region.wanted, yielded]; done)))
        | ((with_reducible refine own_loadg1 hO ?_ _ rfl rfl _ Try.underlying26 rfl (peer_size _) ?_); (· first | rfl | (simp [Region.wanted, yielded]; done)))
        | ((with_reducible refine own_loadg2 hO ?_ _ rfl rfl _ Try.underlying26 rfl (peer_size _) ?_); (· first | rfl | (simp [Region.wanted, yielded]; done)))
        | ((with_reducible refine own_loadg3 hO ?_ _ rfl rfl _ Try.underlying26 rfl (peer_size _) ?_); (· first | rfl | (simp [Region.wanted, yielded]; done)))
        | ((with_reducible refine own_loadg4 hO ?_ _ rfl rfl _ Try.underlying26 rfl (peer_size _) ?_); (· first | rfl | (simp [Region.wanted, yielded]; done)))
        | ((with_reducible refine own_loadg6 hO ?_ _ rfl rfl _ Try.underlying26 rfl (peer_size _) ?_); (· first | rfl | (simp [Region.wanted, yielded]; done)))
        | ((with_reducible refine own_loadg5 hO ?_ _ rfl rfl _ Try.underlying30 rfl (pdu_size _ _ _ _) ?_); (· first | rfl | (simp [Region.wanted, yielded]; done)))
        | ((with_reducible refine own_loadg7 hO ?_ _ rfl rfl _ Try.underlying30 rfl (pdu_size _ _ _ _) ?_); (· first | rfl | (simp [Region.wanted, yielded]; done)))
        | (with_reducible refine own_row3 (peerC (endX base train a b)) (hO.new3 26 #[.int .i64 0, .int .i64 0, .int .u32 0, .int .u32 0, .int .u32 0, .int .u32 0, .int .i64 0, .int .u32 0, .int .u32 0, .int .u32 0, .int .u32 0, .int .u32 0, .int .u32 0, .bool false, .int .u32 0, .int .u32 0]) rfl _ _ rfl rfl rfl (peer_size (endX base train a b)) (by kernel_rfl) (peer_cells (endX base train a b)) ?_; intro w23 hO23 hz23 hk23; replace hO := hO23; clear hO23 hz23 hk23)
        | (with_reducible refine own_row4 (peerC (endY base train a b)) (hO.new4 26 #[.int .i64 0, .int .i64 0, .int .u32 0, .int .u32 0, .int .u32 0, .int .u32 0, .int .i64 0, .int .u32 0, .int .u32 0, .int .u32 0, .int .u32 0, .int .u32 0, .int .u32 0, .bool false, .int .u32 0, .int .u32 0]) rfl _ _ rfl rfl rfl (peer_size (endY base train a b)) (by kernel_rfl) (peer_cells (endY base train a b)) ?_; intro w24 hO24 hz24 hk24; replace hO := hO24; clear hO24 hz24 hk24)
        | (go_at_call 20; (with_reducible refine (hda _ (hB.below hO.below)).mono ?_); rintro e w3 ⟨A3, c3, rfl, hB3, hb3⟩; replace hO := hO.grow hb3)
        | (with_reducible refine own_row5 (pduC (sent7 (Derive base a b) 0 train b body) A3 body.length c3) (hO.new5 30 #[.int .i64 0, .int .i64 0, .int .i64 0, .int .u32 0, .int .u32 0, .slice none 0 0, .int .u64 0]) rfl _ _ rfl rfl rfl (pdu_size (sent7 (Derive base a b) 0 train b body) A3 body.length c3) (by kernel_rfl) (pdu_cells (sent7 (Derive base a b) 0 train b body) A3 body.length c3) ?_; intro w31 hO31 hz31 hk31; have hB31 := (hB3.alloc _).apart (Blk.new w3 _ _) (by kernel_rfl) hz31 hk31; replace hO := hO31; clear hO31 hz31 hk31)
        | (go_at_call 21; (with_reducible refine (hta _ A3 c3 hB31).mono ?_); rintro e w4 ⟨A4, c4, rfl, hB4, hb4⟩; have hB34 := hB31.below hb4; replace hO := hO.grow hb4)
        | (go_at_call 21; (with_reducible refine (hto _ A3 c3 hB34).mono ?_); rintro e w5 ⟨v5, rfl, hb5⟩; have hB45 := hB4.below hb5; replace hO := hO.grow hb5)
        | (go_at_call 24; (with_reducible refine (hen _).mono ?_); rintro e w6 ⟨A6, c6, rfl, hB6, hb6⟩; have hB46 := hB45.below hb6; replace hO := hO.grow hb6)
        | (with_reducible refine own_row6 (peerC (closed10 (endX base train a b))) (hO.two6 26 30 #[.int .i64 0, .int .i64 0, .int .u32 0, .int .u32 0, .int .u32 0, .int .u32 0, .int .i64 0, .int .u32 0, .int .u32 0, .int .u32 0, .int .u32 0, .int .u32 0, .int .u32 0, .bool false, .int .u32 0, .int .u32 0] #[.int .i64 0, .int .i64 0, .int .i64 0, .int .u32 0, .int .u32 0, .slice none 0 0, .int .u64 0]) rfl _ _ rfl rfl rfl (peer_size (closed10 (endX base train a b))) (by kernel_rfl) (peer_cells (closed10 (endX base train a b))) ?_; intro w61 hO61 hz61 hk61; have hB61 := ((hB6.alloc _).alloc _).apart (hO.two6 26 30 #[.int .i64 0, .int .i64 0, .int .u32 0, .int .u32 0, .int .u32 0, .int .u32 0, .int .i64 0, .int .u32 0, .int .u32 0, .int .u32 0, .int .u32 0, .int .u32 0, .int .u32 0, .bool false, .int .u32 0, .int .u32 0] #[.int .i64 0, .int .i64 0, .int .i64 0, .int .u32 0, .int .u32 0, .slice none 0 0, .int .u64 0]).b6 (by kernel_rfl) hz61 hk61; have hB461 := ((hB46.alloc _).alloc _).apart (hO.two6 26 30 #[.int .i64 0, .int .i64 0, .int .u32 0, .int .u32 0, .int .u32 0, .int .u32 0, .int .i64 0, .int .u32 0, .int .u32 0, .int .u32 0, .int .u32 0, .int .u32 0, .int .u32 0, .bool false, .int .u32 0, .int .u32 0] #[.int .i64 0, .int .i64 0, .int .i64 0, .int .u32 0, .int .u32 0, .slice none 0 0, .int .u64 0]).b6 (by kernel_rfl) hz61 hk61; replace hO := hO61; clear hO61 hz61 hk61)
        | (with_reducible refine own_row7 (pduC (over7 (Derive base a b) 0 train b why) A6 1 c6) hO rfl _ _ rfl rfl rfl (pdu_size (over7 (Derive base a b) 0 train b why) A6 1 c6) (by kernel_rfl) (pdu_cells (over7 (Derive base a b) 0 train b why) A6 1 c6) ?_; intro w62 hO62 hz62 hk62; have hB62 := hB61.apart hO.b7 (by kernel_rfl) hz62 hk62; have hB462 := hB461.apart hO.b7 (by kernel_rfl) hz62 hk62; replace hO := hO62; clear hO62 hz62 hk62)
        | (go_at_call 26; (with_reducible refine (hcl _ A6 c6 hB62).mono ?_); rintro e w7 ⟨rfl, hb7⟩; have hB47 := hB462.below hb7; replace hO := hO.grow hb7)
        | (with_reducible refine own_row8 (peerC (closed10 (endY base train a b))) (hO.new8 26 #[.int .i64 0, .int .i64 0, .int .u32 0, .int .u32 0, .int .u32 0, .int .u32 0, .int .i64 0, .int .u32 0, .int .u32 0, .int .u32 0, .int .u32 0, .int .u32 0, .int .u32 0, .bool false, .int .u32 0, .int .u32 0]) rfl _ _ rfl rfl rfl (peer_size (closed10 (endY base train a b))) (by kernel_rfl) (peer_cells (closed10 (endY base train a b))) ?_; intro w71 hO71 hz71 hk71; have hB471 := (hB47.alloc _).apart (Blk.new w7 _ _) (by kernel_rfl) hz71 hk71; replace hO := hO71; clear hO71 hz71 hk71)
        | (go_at_call 20; (with_reducible refine (hdc _ (hB.below hO.below)).mono ?_); rintro e w8 ⟨A8, c8, rfl, hb8⟩; have hB48 := hB471.below hb8; replace hO := hO.grow hb8)
        | (with_reducible refine own_row9 (pduC P7.none_ A8 0 c8) (hO.new9 30 #[.int .i64 0, .int .i64 0, .int .i64 0, .int .u32 0, .int .u32 0, .slice none 0 0, .int .u64 0]) rfl _ _ rfl rfl rfl (pdu_size P7.none_ A8 0 c8) (by kernel_rfl) (pdu_cells P7.none_ A8 0 c8) ?_; intro w9 hO9 hz9 hk9; have hB9 := (hB48.alloc _).apart (Blk.new w8 _ _) (by kernel_rfl) hz9 hk9; replace hO := hO9; clear hO9 hz9 hk9; go_loud (have f86 : w9.cell? ⟨w7.heap.size, 6, none⟩ = some (.int .i64 0) := (hO.b8.cell 6).trans rfl; have s1 := run_bytes_string hB9; have s2 := run_bytes_string (hB.below hO.below))))
      go_ret
      exact ⟨rfl, hO.below⟩
    | true =>
      have hda : ∀ W, Bytes W A c0 body → Calls Try.prog 20 #[.agg (peerC (endY base train a b)), .slice A body.length c0] W fun e w' => ∃ A' c', e = .returned (.tuple #[.agg (pduC (sent7 (Derive base a b) 1 train b body) A' body.length c'), .int .i64 0]) ∧ Bytes w' A' c' body ∧ Below W.heap.size W w' := fun W h => by
        obtain ⟨e1, e2⟩ := data_up (endY_up base train a b) g3 g4 body g1 g2
        have := shdata_k (endY base train a b) body A body.length c0 W rfl h (by omega)
        rw [e1, e2] at this
        exact this
      have hta : ∀ W A1 c1, Bytes W A1 c1 body → Calls Try.prog 21 #[.agg (peerC (endX base train a b)), .agg (pduC (sent7 (Derive base a b) 1 train b body) A1 body.length c1)] W fun e w' => ∃ A' c', e = .returned (.tuple #[.slice A' body.length c', .int .i64 0]) ∧ Bytes w' A' c' body ∧ Below W.heap.size W w' := fun W A1 c1 h => by
        obtain ⟨e1, e2⟩ := take_same (endX_up base train a b) g3 g4 1 (by decide) (by decide) (by show (1 : Int) ≠ (if (0 : Int) = 0 then 0 else 1); decide) body g1 g2
        have := shtake_k (endX base train a b) (sent7 (Derive base a b) 1 train b body) A1 body.length c1 W rfl h (by show body.length ≤ 2000; omega)
        rw [show taken10 (endX base train a b) (sent7 (Derive base a b) 1 train b body) 5 = 0 from e1] at this
        refine this.mono ?_
        rintro e w' ⟨v, rfl, hv, hb⟩
        rw [show takeB (endX base train a b) (sent7 (Derive base a b) 1 train b body) = body from e2] at hv
        obtain ⟨A', c', rfl, hB⟩ := hv
        exact ⟨A', c', rfl, hB, hb⟩
      have hto : ∀ W A1 c1, Bytes W A1 c1 body → Calls Try.prog 21 #[.agg (peerC (endY base train a b)), .agg (pduC (sent7 (Derive base a b) 1 train b body) A1 body.length c1)] W fun e w' => ∃ v, e = .returned (.tuple #[v, .int .i64 1]) ∧ Below W.heap.size W w' := fun W A1 c1 h => by
        have := shtake_k (endY base train a b) (sent7 (Derive base a b) 1 train b body) A1 body.length c1 W rfl h (by show body.length ≤ 2000; omega)
        rw [show taken10 (endY base train a b) (sent7 (Derive base a b) 1 train b body) 5 = 1 from take_own (Derive base a b) train b body 5] at this
        exact this.mono fun e w' ⟨v, h1, _, h3⟩ => ⟨v, h1, h3⟩
      have hen : ∀ W, Calls Try.prog 24 #[.agg (peerC (endY base train a b)), q8 why] W fun e w' => ∃ A' c', e = .returned (.tuple #[.agg (peerC (closed10 (endY base train a b))), .agg (pduC (over7 (Derive base a b) 1 train b why) A' 1 c'), .int .i64 0]) ∧ Bytes w' A' c' [why] ∧ Below W.heap.size W w' := fun W => by
        obtain ⟨e1, e2, e3⟩ := end_up (endY_up base train a b) g3 g4 why
        have := shend_k (endY base train a b) why W
        rw [e1, e2, e3] at this
        exact this
      have hcl : ∀ W A1 c1, Bytes W A1 c1 [why] → Calls Try.prog 26 #[.agg (peerC (endX base train a b)), .agg (pduC (over7 (Derive base a b) 1 train b why) A1 1 c1)] W fun e w' => e = .returned (.tuple #[.agg (peerC (closed10 (endX base train a b))), .int .i64 0]) ∧ Below W.heap.size W w' := fun W A1 c1 h => by
        obtain ⟨e1, e2⟩ := close_same (endX_up base train a b) g3 g4 1 (by decide) (by decide) (by show (1 : Int) ≠ (if (0 : Int) = 0 then 0 else 1); decide) why
        have := shclose_k (endX base train a b) (over7 (Derive base a b) 1 train b why) A1 1 c1 W rfl h (by show (1 : Nat) ≤ 2000; decide)
        rw [show closeP (endX base train a b) (over7 (Derive base a b) 1 train b why) = closed10 (endX base train a b) from e2, show taken10 (endX base train a b) (over7 (Derive base a b) 1 train b why) 6 = 0 from e1] at this
        exact this
      have hdc : ∀ W, Bytes W A c0 body → Calls Try.prog 20 #[.agg (peerC (closed10 (endY base train a b))), .slice A body.length c0] W fun e w' => ∃ A' c', e = .returned (.tuple #[.agg (pduC P7.none_ A' 0 c'), .int .i64 6]) ∧ Below W.heap.size W w' := fun W h => by
        obtain ⟨e1, e2⟩ := data_closed (endY base train a b) body
        have := shdata_k (closed10 (endY base train a b)) body A body.length c0 W rfl h (by omega)
        rw [e1, e2] at this
        exact this.mono fun e w' ⟨A', c', h1, _, h3⟩ => ⟨A', c', h1, h3⟩
      go_enter Try.func7, Try.ntmps7
      go_wp2_with (first
        | (go_at_call 9; (with_reducible refine (awake10_any _).mono ?_); rintro e w1 ⟨rfl, hb1⟩; replace hO := hO.grow hb1)
        | ((with_reducible refine own_loadg0 hO ?_ _ rfl rfl _ Try.underlying24 rfl (by kernel_rfl) ?_); (· first | rfl | (simp [Region.wanted, yielded]; done)))
        | (go_at_call 19; (with_reducible refine (hbo _).mono ?_); rintro e w2 ⟨rfl, hb2⟩; replace hO := hO.grow hb2)
        | (with_reducible refine own_row1 (peerC (endX base train a b)) (hO.two1 26 26 #[.int .i64 0, .int .i64 0, .int .u32 0, .int .u32 0, .int .u32 0, .int .u32 0, .int .i64 0, .int .u32 0, .int .u32 0, .int .u32 0, .int .u32 0, .int .u32 0, .int .u32 0, .bool false, .int .u32 0, .int .u32 0] #[.int .i64 0, .int .i64 0, .int .u32 0, .int .u32 0, .int .u32 0, .int .u32 0, .int .i64 0, .int .u32 0, .int .u32 0, .int .u32 0, .int .u32 0, .int .u32 0, .int .u32 0, .bool false, .int .u32 0, .int .u32 0]) rfl _ _ rfl rfl rfl (peer_size (endX base train a b)) (by kernel_rfl) (peer_cells (endX base train a b)) ?_; intro w21 hO21 hz21 hk21; replace hO := hO21; clear hO21 hz21 hk21)
        | (with_reducible refine own_row2 (peerC (endY base train a b)) hO rfl _ _ rfl rfl rfl (peer_size (endY base train a b)) (by kernel_rfl) (peer_cells (endY base train a b)) ?_; intro w22 hO22 hz22 hk22; replace hO := hO22; go_loud (have f1_6 : w22.cell? ⟨w2.heap.size, 6, none⟩ = some (.int .i64 2) := (hO.b1.cell 6).trans rfl; have f1_7 : w22.cell? ⟨w2.heap.size, 7, none⟩ = some (q32 a) := (hO.b1.cell 7).trans rfl; have f1_8 : w22.cell? ⟨w2.heap.size, 8, none⟩ = some (q32 b) := (hO.b1.cell 8).trans rfl; have f2_6 : w22.cell? ⟨w2.heap.size + 1, 6, none⟩ = some (.int .i64 2) := (hO.b2.cell 6).trans rfl; have f2_7 : w22.cell? ⟨w2.heap.size + 1, 7, none⟩ = some (q32 a) := (hO.b2.cell 7).trans rfl; have f2_8 : w22.cell? ⟨w2.heap.size + 1, 8, none⟩ = some (q32 b) := (hO.b2.cell 8).trans rfl); clear hO22 hz22 hk22)
        | ((with_reducible refine own_key hO.b1 ?_ _ rfl rfl _ Try.underlying24 rfl (by kernel_rfl) ?_); (· first | rfl | (simp [Region.wanted, yielded]; done)))
        | ((with_reducible refine own_key hO.b2 ?_ _ rfl rfl _ Try.underlying24 rfl (by kernel_rfl) ?_); (· first | rfl | (simp [Region.wanted, yielded]; done)))
        | ((with_reducible refine own_loadg1 hO ?_ _ rfl rfl _ Try.underlying26 rfl (peer_size _) ?_); (· first | rfl | (simp [Region.wanted, yielded]; done)))
        | ((with_reducible refine own_loadg2 hO ?_ _ rfl rfl _ Try.underlying26 rfl (peer_size _) ?_); (· first | rfl | (simp [Region.wanted, yielded]; done)))
        | ((with_reducible refine own_loadg3 hO ?_ _ rfl rfl _ Try.underlying26 rfl (peer_size _) ?_); (· first | rfl | (simp [Region.wanted, yielded]; done)))
        | ((with_reducible refine own_loadg4 hO ?_ _ rfl rfl _ Try.underlying26 rfl (peer_size _) ?_); (· first | rfl | (simp [Region.wanted, yielded]; done)))
        | ((with_reducible refine own_loadg6 hO ?_ _ rfl rfl _ Try.underlying26 rfl (peer_size _) ?_); (· first | rfl | (simp [Region.wanted, yielded]; done)))
        | ((with_reducible refine own_loadg5 hO ?_ _ rfl rfl _ Try.underlying30 rfl (pdu_size _ _ _ _) ?_); (· first | rfl | (simp [Region.wanted, yielded]; done)))
        | ((with_reducible refine own_loadg7 hO ?_ _ rfl rfl _ Try.underlying30 rfl (pdu_size _ _ _ _) ?_); (· first | rfl | (simp [Region.wanted, yielded]; done)))
        | (with_reducible refine own_row3 (peerC (endX base train a b)) (hO.new3 26 #[.int .i64 0, .int .i64 0, .int .u32 0, .int .u32 0, .int .u32 0, .int .u32 0, .int .i64 0, .int .u32 0, .int .u32 0, .int .u32 0, .int .u32 0, .int .u32 0, .int .u32 0, .bool false, .int .u32 0, .int .u32 0]) rfl _ _ rfl rfl rfl (peer_size (endX base train a b)) (by kernel_rfl) (peer_cells (endX base train a b)) ?_; intro w23 hO23 hz23 hk23; replace hO := hO23; clear hO23 hz23 hk23)
        | (with_reducible refine own_row4 (peerC (endY base train a b)) (hO.new4 26 #[.int .i64 0, .int .i64 0, .int .u32 0, .int .u32 0, .int .u32 0, .int .u32 0, .int .i64 0, .int .u32 0, .int .u32 0, .int .u32 0, .int .u32 0, .int .u32 0, .int .u32 0, .bool false, .int .u32 0, .int .u32 0]) rfl _ _ rfl rfl rfl (peer_size (endY base train a b)) (by kernel_rfl) (peer_cells (endY base train a b)) ?_; intro w24 hO24 hz24 hk24; replace hO := hO24; clear hO24 hz24 hk24)
        | (with_reducible refine own_row3 (peerC (endY base train a b)) hO rfl _ _ rfl rfl rfl (peer_size (endY base train a b)) (by kernel_rfl) (peer_cells (endY base train a b)) ?_; intro w25 hO25 hz25 hk25; replace hO := hO25; clear hO25 hz25 hk25)
        | (with_reducible refine own_row4 (peerC (endX base train a b)) hO rfl _ _ rfl rfl rfl (peer_size (endX base train a b)) (by kernel_rfl) (peer_cells (endX base train a b)) ?_; intro w26 hO26 hz26 hk26; replace hO := hO26; clear hO26 hz26 hk26)
        | (go_at_call 20; (with_reducible refine (hda _ (hB.below hO.below)).mono ?_); rintro e w3 ⟨A3, c3, rfl, hB3, hb3⟩; replace hO := hO.grow hb3)
        | (with_reducible refine own_row5 (pduC (sent7 (Derive base a b) 1 train b body) A3 body.length c3) (hO.new5 30 #[.int .i64 0, .int .i64 0, .int .i64 0, .int .u32 0, .int .u32 0, .slice none 0 0, .int .u64 0]) rfl _ _ rfl rfl rfl (pdu_size (sent7 (Derive base a b) 1 train b body) A3 body.length c3) (by kernel_rfl) (pdu_cells (sent7 (Derive base a b) 1 train b body) A3 body.length c3) ?_; intro w31 hO31 hz31 hk31; have hB31 := (hB3.alloc _).apart (Blk.new w3 _ _) (by kernel_rfl) hz31 hk31; replace hO := hO31; clear hO31 hz31 hk31)
        | (go_at_call 21; (with_reducible refine (hta _ A3 c3 hB31).mono ?_); rintro e w4 ⟨A4, c4, rfl, hB4, hb4⟩; have hB34 := hB31.below hb4; replace hO := hO.grow hb4)
        | (go_at_call 21; (with_reducible refine (hto _ A3 c3 hB34).mono ?_); rintro e w5 ⟨v5, rfl, hb5⟩; have hB45 := hB4.below hb5; replace hO := hO.grow hb5)
        | (go_at_call 24; (with_reducible refine (hen _).mono ?_); rintro e w6 ⟨A6, c6, rfl, hB6, hb6⟩; have hB46 := hB45.below hb6; replace hO := hO.grow hb6)
        | (with_reducible refine own_row6 (peerC (closed10 (endY base train a b))) (hO.two6 26 30 #[.int .i64 0, .int .i64 0, .int .u32 0, .int .u32 0, .int .u32 0, .int .u32 0, .int .i64 0, .int .u32 0, .int .u32 0, .int .u32 0, .int .u32 0, .int .u32 0, .int .u32 0, .bool false, .int .u32 0, .int .u32 0] #[.int .i64 0, .int .i64 0, .int .i64 0, .int .u32 0, .int .u32 0, .slice none 0 0, .int .u64 0]) rfl _ _ rfl rfl rfl (peer_size (closed10 (endY base train a b))) (by kernel_rfl) (peer_cells (closed10 (endY base train a b))) ?_; intro w61 hO61 hz61 hk61; have hB61 := ((hB6.alloc _).alloc _).apart (hO.two6 26 30 #[.int .i64 0, .int .i64 0, .int .u32 0, .int .u32 0, .int .u32 0, .int .u32 0, .int .i64 0, .int .u32 0, .int .u32 0, .int .u32 0, .int .u32 0, .int .u32 0, .int .u32 0, .bool false, .int .u32 0, .int .u32 0] #[.int .i64 0, .int .i64 0, .int .i64 0, .int .u32 0, .int .u32 0, .slice none 0 0, .int .u64 0]).b6 (by kernel_rfl) hz61 hk61; have hB461 := ((hB46.alloc _).alloc _).apart (hO.two6 26 30 #[.int .i64 0, .int .i64 0, .int .u32 0, .int .u32 0, .int .u32 0, .int .u32 0, .int .i64 0, .int .u32 0, .int .u32 0, .int .u32 0, .int .u32 0, .int .u32 0, .int .u32 0, .bool false, .int .u32 0, .int .u32 0] #[.int .i64 0, .int .i64 0, .int .i64 0, .int .u32 0, .int .u32 0, .slice none 0 0, .int .u64 0]).b6 (by kernel_rfl) hz61 hk61; replace hO := hO61; clear hO61 hz61 hk61)
        | (with_reducible refine own_row7 (pduC (over7 (Derive base a b) 1 train b why) A6 1 c6) hO rfl _ _ rfl rfl rfl (pdu_size (over7 (Derive base a b) 1 train b why) A6 1 c6) (by kernel_rfl) (pdu_cells (over7 (Derive base a b) 1 train b why) A6 1 c6) ?_; intro w62 hO62 hz62 hk62; have hB62 := hB61.apart hO.b7 (by kernel_rfl) hz62 hk62; have hB462 := hB461.apart hO.b7 (by kernel_rfl) hz62 hk62; replace hO := hO62; clear hO62 hz62 hk62)
        | (go_at_call 26; (with_reducible refine (hcl _ A6 c6 hB62).mono ?_); rintro e w7 ⟨rfl, hb7⟩; have hB47 := hB462.below hb7; replace hO := hO.grow hb7)
        | (with_reducible refine own_row8 (peerC (closed10 (endX base train a b))) (hO.new8 26 #[.int .i64 0, .int .i64 0, .int .u32 0, .int .u32 0, .int .u32 0, .int .u32 0, .int .i64 0, .int .u32 0, .int .u32 0, .int .u32 0, .int .u32 0, .int .u32 0, .int .u32 0, .bool false, .int .u32 0, .int .u32 0]) rfl _ _ rfl rfl rfl (peer_size (closed10 (endX base train a b))) (by kernel_rfl) (peer_cells (closed10 (endX base train a b))) ?_; intro w71 hO71 hz71 hk71; have hB471 := (hB47.alloc _).apart (Blk.new w7 _ _) (by kernel_rfl) hz71 hk71; replace hO := hO71; clear hO71 hz71 hk71)
        | (go_at_call 20; (with_reducible refine (hdc _ (hB.below hO.below)).mono ?_); rintro e w8 ⟨A8, c8, rfl, hb8⟩; have hB48 := hB471.below hb8; replace hO := hO.grow hb8)
        | (with_reducible refine own_row9 (pduC P7.none_ A8 0 c8) (hO.new9 30 #[.int .i64 0, .int .i64 0, .int .i64 0, .int .u32 0, .int .u32 0, .slice none 0 0, .int .u64 0]) rfl _ _ rfl rfl rfl (pdu_size P7.none_ A8 0 c8) (by kernel_rfl) (pdu_cells P7.none_ A8 0 c8) ?_; intro w9 hO9 hz9 hk9; have hB9 := (hB48.alloc _).apart (Blk.new w8 _ _) (by kernel_rfl) hz9 hk9; replace hO := hO9; clear hO9 hz9 hk9; go_loud (have f86 : w9.cell? ⟨w7.heap.size, 6, none⟩ = some (.int .i64 0) := (hO.b8.cell 6).trans rfl; have s1 := run_bytes_string hB9; have s2 := run_bytes_string (hB.below hO.below))))
      go_ret
      exact ⟨rfl, hO.below⟩
  · have hg' : body.length < 1 ∨ (1 ≤ body.length ∧ 1023 < body.length) ∨ ((1 ≤ body.length ∧ body.length ≤ 1023) ∧ train < 0) ∨ (((1 ≤ body.length ∧ body.length ≤ 1023) ∧ 0 ≤ train) ∧ 16777216 ≤ train) := by omega
    rcases hg' with g | g | g | g <;>
      (go_enter Try.func7, Try.ntmps7
       go_wp2_with (go_at_call 9; (with_reducible refine (awake10_any _).mono ?_); rintro e w1 ⟨rfl, hb1⟩)
       go_ret
       exact ⟨rfl, below_of_alloc hb1⟩)
set_option maxRecDepth 100000 in
theorem shakePasses_lifted (os : Os) (started : os.Started) (H : Type) (enc : TypeId × Value → H) :
    ReturnsInHanded {} Try.checked os 7 .any (Rows.shakePassesSpec.pre6 enc Try.prog Try.f7 Rows.shakePassesRow.domain false) (Rows.shakePassesSpec.post enc Try.prog Try.f7 false true false false) := by
  refine returnsInHanded_of_change (C := Try.checked) own started (by kernel_rfl) Try.func7
    (ChangeSpec.witness6 (enc := enc) (C := Try.checked) false ⟨#[], #[.agg #[.int .u32 0, .int .u32 0, .int .u32 0, .int .u32 0], .int .i64 0, .int .u32 0, .int .u32 0, .slice none 0 0, .bool false, .int .u8 0], []⟩ 8 (by kernel_rfl) (by kernel_rfl) (by kernel_rfl) (by kernel_rfl)) ?_
  intro W base args ds gs before hval0 hW hcnd _
  have hval : ∀ (j : Nat) t v, Try.f7.params[j]? = some t → args[j]? = some v → Value.okWide Try.prog W .any base t v := hval0
  have hW' := hW
  obtain ⟨p, q, hA0, hV, rfl, hfz, hnd⟩ := hW
  have hA : DataW.TrodAll enc Try.prog W 0 (fun _ => true) true Try.f7.params.toList args.toList ds p := hA0
  rw [Try.params7] at hA hval
  obtain ⟨v0, vs0, d0, ds0, p0, q0, hargs, rfl, rfl, h0, r0⟩ := trodAll_cons hA
  obtain ⟨v1, vs1, d1, ds1, p1, q1, rfl, rfl, rfl, h1, r1⟩ := trodAll_cons r0
  obtain ⟨v2, vs2, d2, ds2, p2, q2, rfl, rfl, rfl, h2, r2⟩ := trodAll_cons r1
  obtain ⟨v3, vs3, d3, ds3, p3, q3, rfl, rfl, rfl, h3, r3⟩ := trodAll_cons r2
  obtain ⟨v4, vs4, d4, ds4, p4, q4, rfl, rfl, rfl, h4, r4⟩ := trodAll_cons r3
  obtain ⟨v5, vs5, d5, ds5, p5, q5, rfl, rfl, rfl, h5, r5⟩ := trodAll_cons r4
  obtain ⟨v6, vs6, d6, ds6, p6, q6, rfl, rfl, rfl, h6, r6⟩ := trodAll_cons r5
  obtain ⟨rfl, rfl, rfl⟩ := trodAll_nil r6
  obtain rfl : args = #[v0, v1, v2, v3, v4, v5, v6] := by cases args; simp_all
  obtain ⟨rfl, rfl⟩ := trodVars_none hV
  have k0 := h0
  have lt0 : ∀ x ∈ p0, x.block < W.heap.size := by obtain ⟨m, hm⟩ := k0; exact DataW.trod_lt m _ _ _ hm
  have k1 := h1
  have lt1 : ∀ x ∈ p1, x.block < W.heap.size := by obtain ⟨m, hm⟩ := k1; exact DataW.trod_lt m _ _ _ hm
  have k2 := h2
  have lt2 : ∀ x ∈ p2, x.block < W.heap.size := by obtain ⟨m, hm⟩ := k2; exact DataW.trod_lt m _ _ _ hm
  have k3 := h3
  have lt3 : ∀ x ∈ p3, x.block < W.heap.size := by obtain ⟨m, hm⟩ := k3; exact DataW.trod_lt m _ _ _ hm
  have k4 := h4
  have lt4 : ∀ x ∈ p4, x.block < W.heap.size := by obtain ⟨m, hm⟩ := k4; exact DataW.trod_lt m _ _ _ hm
  have k5 := h5
  have lt5 : ∀ x ∈ p5, x.block < W.heap.size := by obtain ⟨m, hm⟩ := k5; exact DataW.trod_lt m _ _ _ hm
  have k6 := h6
  have lt6 : ∀ x ∈ p6, x.block < W.heap.size := by obtain ⟨m, hm⟩ := k6; exact DataW.trod_lt m _ _ _ hm
  obtain ⟨a0, rfl⟩ := open_key (hval 0 24 v0 rfl rfl) h0
  obtain ⟨a1, rfl, _, _, w1⟩ := open_int Try.underlying3 (hval 1 3 v1 rfl rfl) h1
  obtain ⟨a2, rfl⟩ := open_q32 (hval 2 22 v2 rfl rfl) h2
  obtain ⟨a3, rfl⟩ := open_q32 (hval 3 22 v3 rfl rfl) h3
  obtain ⟨s4, b4⟩ := open_bytes (hval 4 27 v4 rfl rfl) h4
  obtain ⟨a5, rfl, _, _⟩ := open_bool Try.underlying4 (hval 5 4 v5 rfl rfl) h5
  obtain ⟨a6, rfl⟩ := open_q8 (hval 6 5 v6 rfl rfl) h6
  clear hA0 hval0
  refine (shakePasses_walk a0 a1 (bounds_i64 w1).1 (bounds_i64 w1).2 a2 a3 v4 s4 a5 a6 W b4).mono fun e W' ⟨he, bel⟩ => ?_
  subst he
  exact ⟨_, rfl, _, _, _, [], _, [], hW', trodAll_mk1 (shut_bool Try.underlying4 _), (trodAll_cons_mk (Below.trod laidOut (by kernel_rfl) (of_decide_eq_true (by kernel_rfl)) k0 bel lt0) (trodAll_cons_mk (Below.trod laidOut (by kernel_rfl) (of_decide_eq_true (by kernel_rfl)) k1 bel lt1) (trodAll_cons_mk (Below.trod laidOut (by kernel_rfl) (of_decide_eq_true (by kernel_rfl)) k2 bel lt2) (trodAll_cons_mk (Below.trod laidOut (by kernel_rfl) (of_decide_eq_true (by kernel_rfl)) k3 bel lt3) (trodAll_cons_mk (Below.trod laidOut (by kernel_rfl) (of_decide_eq_true (by kernel_rfl)) k4 bel lt4) (trodAll_cons_mk (Below.trod laidOut (by kernel_rfl) (of_decide_eq_true (by kernel_rfl)) k5 bel lt5) (trodAll_cons_mk (Below.trod laidOut (by kernel_rfl) (of_decide_eq_true (by kernel_rfl)) k6 bel lt6) trodAll_mk0))))))), rfl, bel.frame _, fun h => by cases h⟩

theorem shakePasses_over : Rows.shakePassesRow.holds Try.pinned (OpenSpec.ofChange Rows.shakePassesSpec) :=
  OpenClaim.holds_of_wide 7 Try.f7 rfl rfl rfl rfl rfl rfl rfl ⟨rfl, rfl, rfl, rfl, rfl⟩ rfl rfl rfl rfl rfl (by kernel_rfl) Try.func7 (by kernel_rfl)
    (of_decide_eq_true (by kernel_rfl)) (by unfold Func.isWrapper; rw [if_neg (of_decide_eq_false (by kernel_rfl))]; exact ⟨rfl, rfl⟩)
    (fun os started H enc _ => shakePasses_lifted os started H enc)

/-- THE STATEMENT. -/
theorem shakePasses_holds : Rows.ShakePassesSaid := shakePasses_over
end Go.Proofs.Ytnngknmmokajgaa
