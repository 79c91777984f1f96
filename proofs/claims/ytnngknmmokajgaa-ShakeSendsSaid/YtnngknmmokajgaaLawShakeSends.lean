/- ShakeSends: any end sends, takes, ends and is closed as the document says. -/
import Derived.Test.YtnngknmmokajgaaAwake10
import Derived.Test.YtnngknmmokajgaaPduIn
import Derived.Test.YtnngknmmokajgaaShakeIn
import Derived.Test.YtnngknmmokajgaaShakeRefEnd
import Derived.Test.YtnngknmmokajgaaShakeClose
set_option linter.unusedSimpArgs false
set_option linter.unusedVariables false
namespace Go.Proofs.Ytnngknmmokajgaa
open Go.ChangeShapes Go.WideShapes Go.ChangeAt Go.RowKit
open Go.ChangeMaps (open_string shut_string)

theorem same_any (Q : P7) (W : World) (A1 A2 : Option Addr) (c1 c2 : Nat) (h1 : Bytes W A1 c1 Q.body) (h2 : Bytes W A2 c2 Q.body) : Calls Try.prog 12 #[.agg (pduC Q A1 Q.body.length c1), .agg (pduC Q A2 Q.body.length c2)] W fun e w' => e = .returned (.bool true) ∧ Below W.heap.size W w' := by
  have := same_k Q Q A1 _ c1 A2 _ c2 W rfl rfl h1 h2
  rwa [decide_eq_true rfl] at this
set_option maxRecDepth 20000 in
set_option maxHeartbeats 16000000 in
theorem shakeSends_walk (p : Peer10) (v : Value) (q : P7) (v2 : Value) (body : List UInt8) (why : UInt8) (w : World) (hv : IsPduB q v w) (hv2 : IsBytes body v2 w) : Calls Try.prog 6 #[.agg (peerC p), v, v2, q8 why] w fun e w' => e = .returned (.bool true) ∧ Below w.heap.size w w' := by
  obtain ⟨A, c0, rfl, hB⟩ := hv
  obtain ⟨A2, c2, rfl, hB2⟩ := hv2
  have hl := hB.len_le
  have hl2 := hB2.len_le
  show Calls Try.prog 6 #[.agg (peerC p), .agg (pduC q A q.body.length c0), .slice A2 body.length c2, q8 why] w _
  have hO : Own w _ [_, _] := Own.start2 w 26 30 (peerC p) (pduC q A q.body.length c0)
  by_cases hg : q.body.length ≤ 2000 ∧ body.length ≤ 2000
  · obtain ⟨hlen, hlen2⟩ := hg
    obtain ⟨QD, hQD⟩ : ∃ x, dataQ p body = x := ⟨_, rfl⟩
    obtain ⟨ED, hED⟩ : ∃ x, dataE p body = x := ⟨_, rfl⟩
    obtain ⟨TB, hTB⟩ : ∃ x, takeB p q = x := ⟨_, rfl⟩
    obtain ⟨ET, hET⟩ : ∃ x, taken10 p q 5 = x := ⟨_, rfl⟩
    obtain ⟨PE, hPE⟩ : ∃ x, endP p = x := ⟨_, rfl⟩
    obtain ⟨QE, hQE⟩ : ∃ x, endQ p why = x := ⟨_, rfl⟩
    obtain ⟨EE, hEE⟩ : ∃ x, endE p = x := ⟨_, rfl⟩
    obtain ⟨PC, hPC⟩ : ∃ x, closeP p q = x := ⟨_, rfl⟩
    obtain ⟨EC, hEC⟩ : ∃ x, taken10 p q 6 = x := ⟨_, rfl⟩
    have hd1 : ∀ W, Bytes W A2 c2 body → Calls Try.prog 20 #[.agg (peerC p), .slice A2 body.length c2] W fun e w' => ∃ A' c', e = .returned (.tuple #[.agg (pduC QD A' QD.body.length c'), .int .i64 ED]) ∧ Bytes w' A' c' QD.body ∧ Below W.heap.size W w' := fun W h => by
      have := shdata_k p body A2 body.length c2 W rfl h hlen2
      rw [hQD, hED] at this
      exact this
    have hd2 : ∀ W, Bytes W A2 c2 body → Calls Try.prog 22 #[.agg (peerC p), .slice A2 body.length c2] W fun e w' => ∃ A' c', e = .returned (.tuple #[.agg (pduC QD A' QD.body.length c'), .int .i64 ED]) ∧ Bytes w' A' c' QD.body ∧ Below W.heap.size W w' := fun W h => by
      have := rshdata_k p body A2 body.length c2 W rfl h hlen2
      rw [hQD, hED] at this
      exact this
    have ht1 : ∀ W, Bytes W A c0 q.body → Calls Try.prog 21 #[.agg (peerC p), .agg (pduC q A q.body.length c0)] W fun e w' => ∃ A' c', e = .returned (.tuple #[.slice A' TB.length c', .int .i64 ET]) ∧ Bytes w' A' c' TB ∧ Below W.heap.size W w' := fun W h => by
      have := shtake_k p q A q.body.length c0 W rfl h hlen
      rw [hTB, hET] at this
      refine this.mono ?_
      rintro e w' ⟨v, rfl, ⟨A', c', rfl, hB'⟩, hb⟩
      exact ⟨A', c', rfl, hB', hb⟩
    have ht2 : ∀ W, Bytes W A c0 q.body → Calls Try.prog 23 #[.agg (peerC p), .agg (pduC q A q.body.length c0)] W fun e w' => ∃ A' c', e = .returned (.tuple #[.slice A' TB.length c', .int .i64 ET]) ∧ Bytes w' A' c' TB ∧ Below W.heap.size W w' := fun W h => by
      have := rshtake_k p q A q.body.length c0 W rfl h hlen
      rw [hTB, hET] at this
      refine this.mono ?_
      rintro e w' ⟨v, rfl, ⟨A', c', rfl, hB'⟩, hb⟩
      exact ⟨A', c', rfl, hB', hb⟩
    have he1 : ∀ W, Calls Try.prog 24 #[.agg (peerC p), q8 why] W fun e w' => ∃ A' c', e = .returned (.tuple #[.agg (peerC PE), .agg (pduC QE A' QE.body.length c'), .int .i64 EE]) ∧ Bytes w' A' c' QE.body ∧ Below W.heap.size W w' := fun W => by
      have := shend_k p why W
      rw [hPE, hQE, hEE] at this
      exact this
    have he2 : ∀ W, Calls Try.prog 25 #[.agg (peerC p), q8 why] W fun e w' => ∃ A' c', e = .returned (.tuple #[.agg (peerC PE), .agg (pduC QE A' QE.body.length c'), .int .i64 EE]) ∧ Bytes w' A' c' QE.body ∧ Below W.heap.size W w' := fun W => by
      have := rshend_k p why W
      rw [hPE, hQE, hEE] at this
      exact this
    have hc1 : ∀ W, Bytes W A c0 q.body → Calls Try.prog 26 #[.agg (peerC p), .agg (pduC q A q.body.length c0)] W fun e w' => e = .returned (.tuple #[.agg (peerC PC), .int .i64 EC]) ∧ Below W.heap.size W w' := fun W h => by
      have := shclose_k p q A q.body.length c0 W rfl h hlen
      rw [hPC, hEC] at this
      exact this
    have hc2 : ∀ W, Bytes W A c0 q.body → Calls Try.prog 27 #[.agg (peerC p), .agg (pduC q A q.body.length c0)] W fun e w' => e = .returned (.tuple #[.agg (peerC PC), .int .i64 EC]) ∧ Below W.heap.size W w' := fun W h => by
      have := rshclose_k p q A q.body.length c0 W rfl h hlen
      rw [hPC, hEC] at this
      exact this
    have hsd := same_any QD
    have hse := same_any QE
    have ee := fun W => run_eql_peer PE W
    have ec := fun W => run_eql_peer PC W
    clear hQD hED hTB hET hPE hQE hEE hPC hEC
    go_enter Try.func6, Try.ntmps6
    go_wp2_with (first
      | (go_at_call 9; (with_reducible refine (awake10_any _).mono ?_); rintro e w1 ⟨rfl, hb1⟩; replace hO := hO.grow hb1; have f15 : w1.cell? ⟨w.heap.size + 1, 5, none⟩ = some (.slice A q.body.length c0) := (hO.b1.cell 5).trans rfl)
      | ((with_reducible refine own_loadg0 hO ?_ _ rfl rfl _ Try.underlying26 rfl (peer_size _) ?_); (· first | rfl | (simp [Region.wanted, yielded]; done)))
      | ((with_reducible refine own_loadg1 hO ?_ _ rfl rfl _ Try.underlying30 rfl (pdu_size _ _ _ _) ?_); (· first | rfl | (simp [Region.wanted, yielded]; done)))
      | ((with_reducible refine own_loadg2 hO ?_ _ rfl rfl _ Try.underlying30 rfl (pdu_size _ _ _ _) ?_); (· first | rfl | (simp [Region.wanted, yielded]; done)))
      | ((with_reducible refine own_loadg3 hO ?_ _ rfl rfl _ Try.underlying30 rfl (pdu_size _ _ _ _) ?_); (· first | rfl | (simp [Region.wanted, yielded]; done)))
      | ((with_reducible refine own_loadg4 hO ?_ _ rfl rfl _ Try.underlying26 rfl (peer_size _) ?_); (· first | rfl | (simp [Region.wanted, yielded]; done)))
      | ((with_reducible refine own_loadg5 hO ?_ _ rfl rfl _ Try.underlying30 rfl (pdu_size _ _ _ _) ?_); (· first | rfl | (simp [Region.wanted, yielded]; done)))
      | ((with_reducible refine own_loadg6 hO ?_ _ rfl rfl _ Try.underlying26 rfl (peer_size _) ?_); (· first | rfl | (simp [Region.wanted, yielded]; done)))
      | ((with_reducible refine own_loadg7 hO ?_ _ rfl rfl _ Try.underlying30 rfl (pdu_size _ _ _ _) ?_); (· first | rfl | (simp [Region.wanted, yielded]; done)))
      | ((with_reducible refine own_loadg8 hO ?_ _ rfl rfl _ Try.underlying26 rfl (peer_size _) ?_); (· first | rfl | (simp [Region.wanted, yielded]; done)))
      | ((with_reducible refine own_loadg9 hO ?_ _ rfl rfl _ Try.underlying26 rfl (peer_size _) ?_); (· first | rfl | (simp [Region.wanted, yielded]; done)))
      | (go_at_call 20; (with_reducible refine (hd1 _ (hB2.below hO.below)).mono ?_); rintro e w2 ⟨A3, c3, rfl, hBa, hb2⟩; replace hO := hO.grow hb2)
      | (with_reducible refine own_row2 (pduC QD A3 QD.body.length c3) (hO.new2 30 #[.int .i64 0, .int .i64 0, .int .i64 0, .int .u32 0, .int .u32 0, .slice none 0 0, .int .u64 0]) rfl _ _ rfl rfl rfl (pdu_size QD A3 QD.body.length c3) (by kernel_rfl) (pdu_cells QD A3 QD.body.length c3) ?_; intro w21 hO21 hz21 hk21; replace hBa := (hBa.alloc _).apart (Blk.new w2 _ _) (by kernel_rfl) hz21 hk21; replace hO := hO21; clear hO21 hz21 hk21)
      | (go_at_call 22; (with_reducible refine (hd2 _ (hB2.below hO.below)).mono ?_); rintro e w3 ⟨A4, c4, rfl, hBb, hb3⟩; replace hBa := hBa.below hb3; replace hO := hO.grow hb3)
      | (with_reducible refine own_row3 (pduC QD A4 QD.body.length c4) (hO.new3 30 #[.int .i64 0, .int .i64 0, .int .i64 0, .int .u32 0, .int .u32 0, .slice none 0 0, .int .u64 0]) rfl _ _ rfl rfl rfl (pdu_size QD A4 QD.body.length c4) (by kernel_rfl) (pdu_cells QD A4 QD.body.length c4) ?_; intro w31 hO31 hz31 hk31; replace hBa := (hBa.alloc _).apart (Blk.new w3 _ _) (by kernel_rfl) hz31 hk31; replace hBb := (hBb.alloc _).apart (Blk.new w3 _ _) (by kernel_rfl) hz31 hk31; replace hO := hO31; clear hO31 hz31 hk31)
      | (go_at_call 12; (with_reducible refine (hsd _ A3 A4 c3 c4 hBa hBb).mono ?_); rintro e w4 ⟨rfl, hb4⟩; clear hBa hBb; replace hO := hO.grow hb4)
      | (go_at_call 21; (with_reducible refine (ht1 _ (hB.below hO.below)).mono ?_); rintro e w5 ⟨A5, c5, rfl, hBc, hb5⟩; replace hO := hO.grow hb5)
      | (go_at_call 23; (with_reducible refine (ht2 _ (hB.below hO.below)).mono ?_); rintro e w6 ⟨A6, c6, rfl, hBd, hb6⟩; replace hBc := hBc.below hb6; replace hO := hO.grow hb6)
      | (go_at_call 24; (with_reducible refine (he1 _).mono ?_); rintro e w7 ⟨A7, c7, rfl, hBe, hb7⟩; replace hBc := hBc.below hb7; replace hBd := hBd.below hb7; replace hO := hO.grow hb7)
      | (with_reducible refine own_row4 (peerC PE) (hO.two4 26 30 #[.int .i64 0, .int .i64 0, .int .u32 0, .int .u32 0, .int .u32 0, .int .u32 0, .int .i64 0, .int .u32 0, .int .u32 0, .int .u32 0, .int .u32 0, .int .u32 0, .int .u32 0, .bool false, .int .u32 0, .int .u32 0] #[.int .i64 0, .int .i64 0, .int .i64 0, .int .u32 0, .int .u32 0, .slice none 0 0, .int .u64 0]) rfl _ _ rfl rfl rfl (peer_size PE) (by kernel_rfl) (peer_cells PE) ?_; intro w71 hO71 hz71 hk71; replace hBc := ((hBc.alloc _).alloc _).apart (hO.two4 26 30 #[.int .i64 0, .int .i64 0, .int .u32 0, .int .u32 0, .int .u32 0, .int .u32 0, .int .i64 0, .int .u32 0, .int .u32 0, .int .u32 0, .int .u32 0, .int .u32 0, .int .u32 0, .bool false, .int .u32 0, .int .u32 0] #[.int .i64 0, .int .i64 0, .int .i64 0, .int .u32 0, .int .u32 0, .slice none 0 0, .int .u64 0]).b4 (by kernel_rfl) hz71 hk71; replace hBd := ((hBd.alloc _).alloc _).apart (hO.two4 26 30 #[.int .i64 0, .int .i64 0, .int .u32 0, .int .u32 0, .int .u32 0, .int .u32 0, .int .i64 0, .int .u32 0, .int .u32 0, .int .u32 0, .int .u32 0, .int .u32 0, .int .u32 0, .bool false, .int .u32 0, .int .u32 0] #[.int .i64 0, .int .i64 0, .int .i64 0, .int .u32 0, .int .u32 0, .slice none 0 0, .int .u64 0]).b4 (by kernel_rfl) hz71 hk71; replace hBe := ((hBe.alloc _).alloc _).apart (hO.two4 26 30 #[.int .i64 0, .int .i64 0, .int .u32 0, .int .u32 0, .int .u32 0, .int .u32 0, .int .i64 0, .int .u32 0, .int .u32 0, .int .u32 0, .int .u32 0, .int .u32 0, .int .u32 0, .bool false, .int .u32 0, .int .u32 0] #[.int .i64 0, .int .i64 0, .int .i64 0, .int .u32 0, .int .u32 0, .slice none 0 0, .int .u64 0]).b4 (by kernel_rfl) hz71 hk71; replace hO := hO71; clear hO71 hz71 hk71)
      | (with_reducible refine own_row5 (pduC QE A7 QE.body.length c7) hO rfl _ _ rfl rfl rfl (pdu_size QE A7 QE.body.length c7) (by kernel_rfl) (pdu_cells QE A7 QE.body.length c7) ?_; intro w72 hO72 hz72 hk72; replace hBc := hBc.apart hO.b5 (by kernel_rfl) hz72 hk72; replace hBd := hBd.apart hO.b5 (by kernel_rfl) hz72 hk72; replace hBe := hBe.apart hO.b5 (by kernel_rfl) hz72 hk72; replace hO := hO72; clear hO72 hz72 hk72)
      | (go_at_call 25; (with_reducible refine (he2 _).mono ?_); rintro e w8 ⟨A8, c8, rfl, hBf, hb8⟩; replace hBc := hBc.below hb8; replace hBd := hBd.below hb8; replace hBe := hBe.below hb8; replace hO := hO.grow hb8)
      | (with_reducible refine own_row6 (peerC PE) (hO.two6 26 30 #[.int .i64 0, .int .i64 0, .int .u32 0, .int .u32 0, .int .u32 0, .int .u32 0, .int .i64 0, .int .u32 0, .int .u32 0, .int .u32 0, .int .u32 0, .int .u32 0, .int .u32 0, .bool false, .int .u32 0, .int .u32 0] #[.int .i64 0, .int .i64 0, .int .i64 0, .int .u32 0, .int .u32 0, .slice none 0 0, .int .u64 0]) rfl _ _ rfl rfl rfl (peer_size PE) (by kernel_rfl) (peer_cells PE) ?_; intro w81 hO81 hz81 hk81; replace hBc := ((hBc.alloc _).alloc _).apart (hO.two6 26 30 #[.int .i64 0, .int .i64 0, .int .u32 0, .int .u32 0, .int .u32 0, .int .u32 0, .int .i64 0, .int .u32 0, .int .u32 0, .int .u32 0, .int .u32 0, .int .u32 0, .int .u32 0, .bool false, .int .u32 0, .int .u32 0] #[.int .i64 0, .int .i64 0, .int .i64 0, .int .u32 0, .int .u32 0, .slice none 0 0, .int .u64 0]).b6 (by kernel_rfl) hz81 hk81; replace hBd := ((hBd.alloc _).alloc _).apart (hO.two6 26 30 #[.int .i64 0, .int .i64 0, .int .u32 0, .int .u32 0, .int .u32 0, .int .u32 0, .int .i64 0, .int .u32 0, .int .u32 0, .int .u32 0, .int .u32 0, .int .u32 0, .int .u32 0, .bool false, .int .u32 0, .int .u32 0] #[.int .i64 0, .int .i64 0, .int .i64 0, .int .u32 0, .int .u32 0, .slice none 0 0, .int .u64 0]).b6 (by kernel_rfl) hz81 hk81; replace hBe := ((hBe.alloc _).alloc _).apart (hO.two6 26 30 #[.int .i64 0, .int .i64 0, .int .u32 0, .int .u32 0, .int .u32 0, .int .u32 0, .int .i64 0, .int .u32 0, .int .u32 0, .int .u32 0, .int .u32 0, .int .u32 0, .int .u32 0, .bool false, .int .u32 0, .int .u32 0] #[.int .i64 0, .int .i64 0, .int .i64 0, .int .u32 0, .int .u32 0, .slice none 0 0, .int .u64 0]).b6 (by kernel_rfl) hz81 hk81; replace hBf := ((hBf.alloc _).alloc _).apart (hO.two6 26 30 #[.int .i64 0, .int .i64 0, .int .u32 0, .int .u32 0, .int .u32 0, .int .u32 0, .int .i64 0, .int .u32 0, .int .u32 0, .int .u32 0, .int .u32 0, .int .u32 0, .int .u32 0, .bool false, .int .u32 0, .int .u32 0] #[.int .i64 0, .int .i64 0, .int .i64 0, .int .u32 0, .int .u32 0, .slice none 0 0, .int .u64 0]).b6 (by kernel_rfl) hz81 hk81; replace hO := hO81; clear hO81 hz81 hk81)
      | (with_reducible refine own_row7 (pduC QE A8 QE.body.length c8) hO rfl _ _ rfl rfl rfl (pdu_size QE A8 QE.body.length c8) (by kernel_rfl) (pdu_cells QE A8 QE.body.length c8) ?_; intro w82 hO82 hz82 hk82; replace hBc := hBc.apart hO.b7 (by kernel_rfl) hz82 hk82; replace hBd := hBd.apart hO.b7 (by kernel_rfl) hz82 hk82; replace hBe := hBe.apart hO.b7 (by kernel_rfl) hz82 hk82; replace hBf := hBf.apart hO.b7 (by kernel_rfl) hz82 hk82; replace hO := hO82; clear hO82 hz82 hk82)
      | (go_at_call 12; (with_reducible refine (hse _ A7 A8 c7 c8 hBe hBf).mono ?_); rintro e w9 ⟨rfl, hb9⟩; clear hBe hBf; replace hBc := hBc.below hb9; replace hBd := hBd.below hb9; replace hO := hO.grow hb9)
      | (go_at_call 26; (with_reducible refine (hc1 _ (hB.below hO.below)).mono ?_); rintro e w10 ⟨rfl, hb10⟩; replace hBc := hBc.below hb10; replace hBd := hBd.below hb10; replace hO := hO.grow hb10)
      | (with_reducible refine own_row8 (peerC PC) (hO.new8 26 #[.int .i64 0, .int .i64 0, .int .u32 0, .int .u32 0, .int .u32 0, .int .u32 0, .int .i64 0, .int .u32 0, .int .u32 0, .int .u32 0, .int .u32 0, .int .u32 0, .int .u32 0, .bool false, .int .u32 0, .int .u32 0]) rfl _ _ rfl rfl rfl (peer_size PC) (by kernel_rfl) (peer_cells PC) ?_; intro w101 hO101 hz101 hk101; replace hBc := (hBc.alloc _).apart (Blk.new w10 _ _) (by kernel_rfl) hz101 hk101; replace hBd := (hBd.alloc _).apart (Blk.new w10 _ _) (by kernel_rfl) hz101 hk101; replace hO := hO101; clear hO101 hz101 hk101)
      | (go_at_call 27; (with_reducible refine (hc2 _ (hB.below hO.below)).mono ?_); rintro e w11 ⟨rfl, hb11⟩; replace hBc := hBc.below hb11; replace hBd := hBd.below hb11; replace hO := hO.grow hb11)
      | (with_reducible refine own_row9 (peerC PC) (hO.new9 26 #[.int .i64 0, .int .i64 0, .int .u32 0, .int .u32 0, .int .u32 0, .int .u32 0, .int .i64 0, .int .u32 0, .int .u32 0, .int .u32 0, .int .u32 0, .int .u32 0, .int .u32 0, .bool false, .int .u32 0, .int .u32 0]) rfl _ _ rfl rfl rfl (peer_size PC) (by kernel_rfl) (peer_cells PC) ?_; intro w111 hO111 hz111 hk111; replace hBc := (hBc.alloc _).apart (Blk.new w11 _ _) (by kernel_rfl) hz111 hk111; replace hBd := (hBd.alloc _).apart (Blk.new w11 _ _) (by kernel_rfl) hz111 hk111; have s1 := run_bytes_string hBc; have s2 := run_bytes_string hBd; replace hO := hO111; clear hO111 hz111 hk111))
    go_ret
    exact ⟨rfl, hO.below⟩
  · have hg' : 2000 < q.body.length ∨ (q.body.length ≤ 2000 ∧ 2000 < body.length) := by omega
    rcases hg' with h | h <;>
      (go_enter Try.func6, Try.ntmps6
       go_wp2_with (first
         | (go_at_call 9; (with_reducible refine (awake10_any _).mono ?_); rintro e w1 ⟨rfl, hb1⟩; replace hO := hO.grow hb1; have f15 : w1.cell? ⟨w.heap.size + 1, 5, none⟩ = some (.slice A q.body.length c0) := (hO.b1.cell 5).trans rfl))
       go_ret
       exact ⟨rfl, hO.below⟩)
set_option maxRecDepth 100000 in
theorem shakeSends_lifted (os : Os) (started : os.Started) (H : Type) (enc : TypeId × Value → H) :
    ReturnsInHanded {} Try.checked os 6 .any (Rows.shakeSendsSpec.pre6 enc Try.prog Try.f6 Rows.shakeSendsRow.domain false) (Rows.shakeSendsSpec.post enc Try.prog Try.f6 false true false false) := by
  refine returnsInHanded_of_change (C := Try.checked) own started (by kernel_rfl) Try.func6
    (ChangeSpec.witness6 (enc := enc) (C := Try.checked) false ⟨#[], #[.agg #[.int .i64 0, .int .i64 0, .int .u32 0, .int .u32 0, .int .u32 0, .int .u32 0, .int .i64 0, .int .u32 0, .int .u32 0, .int .u32 0, .int .u32 0, .int .u32 0, .int .u32 0, .bool false, .int .u32 0, .int .u32 0], .agg #[.int .i64 0, .int .i64 0, .int .i64 0, .int .u32 0, .int .u32 0, .slice none 0 0, .int .u64 0], .slice none 0 0, .int .u8 0], []⟩ 8 (by kernel_rfl) (by kernel_rfl) (by kernel_rfl) (by kernel_rfl)) ?_
  intro W base args ds gs before hval0 hW hcnd _
  have hval : ∀ (j : Nat) t v, Try.f6.params[j]? = some t → args[j]? = some v → Value.okWide Try.prog W .any base t v := hval0
  have hW' := hW
  obtain ⟨p, q, hA0, hV, rfl, hfz, hnd⟩ := hW
  have hA : DataW.TrodAll enc Try.prog W 0 (fun _ => true) true Try.f6.params.toList args.toList ds p := hA0
  rw [Try.params6] at hA hval
  obtain ⟨v0, vs0, d0, ds0, p0, q0, hargs, rfl, rfl, h0, r0⟩ := trodAll_cons hA
  obtain ⟨v1, vs1, d1, ds1, p1, q1, rfl, rfl, rfl, h1, r1⟩ := trodAll_cons r0
  obtain ⟨v2, vs2, d2, ds2, p2, q2, rfl, rfl, rfl, h2, r2⟩ := trodAll_cons r1
  obtain ⟨v3, vs3, d3, ds3, p3, q3, rfl, rfl, rfl, h3, r3⟩ := trodAll_cons r2
  obtain ⟨rfl, rfl, rfl⟩ := trodAll_nil r3
  obtain rfl : args = #[v0, v1, v2, v3] := by cases args; simp_all
  obtain ⟨rfl, rfl⟩ := trodVars_none hV
  have k0 := h0
  have lt0 : ∀ x ∈ p0, x.block < W.heap.size := by obtain ⟨m, hm⟩ := k0; exact DataW.trod_lt m _ _ _ hm
  have k1 := h1
  have lt1 : ∀ x ∈ p1, x.block < W.heap.size := by obtain ⟨m, hm⟩ := k1; exact DataW.trod_lt m _ _ _ hm
  have k2 := h2
  have lt2 : ∀ x ∈ p2, x.block < W.heap.size := by obtain ⟨m, hm⟩ := k2; exact DataW.trod_lt m _ _ _ hm
  have k3 := h3
  have lt3 : ∀ x ∈ p3, x.block < W.heap.size := by obtain ⟨m, hm⟩ := k3; exact DataW.trod_lt m _ _ _ hm
  obtain ⟨a0, rfl⟩ := open_peer (hval 0 26 v0 rfl rfl) h0
  obtain ⟨s1, b1⟩ := open_pdu (hval 1 30 v1 rfl rfl) h1
  obtain ⟨s2, b2⟩ := open_bytes (hval 2 27 v2 rfl rfl) h2
  obtain ⟨a3, rfl⟩ := open_q8 (hval 3 5 v3 rfl rfl) h3
  clear hA0 hval0
  refine (shakeSends_walk a0 v1 s1 v2 s2 a3 W b1 b2).mono fun e W' ⟨he, bel⟩ => ?_
  subst he
  exact ⟨_, rfl, _, _, _, [], _, [], hW', trodAll_mk1 (shut_bool Try.underlying4 _), (trodAll_cons_mk (Below.trod laidOut (by kernel_rfl) (of_decide_eq_true (by kernel_rfl)) k0 bel lt0) (trodAll_cons_mk (Below.trod laidOut (by kernel_rfl) (of_decide_eq_true (by kernel_rfl)) k1 bel lt1) (trodAll_cons_mk (Below.trod laidOut (by kernel_rfl) (of_decide_eq_true (by kernel_rfl)) k2 bel lt2) (trodAll_cons_mk (Below.trod laidOut (by kernel_rfl) (of_decide_eq_true (by kernel_rfl)) k3 bel lt3) trodAll_mk0)))), rfl, bel.frame _, fun h => by cases h⟩

theorem shakeSends_over : Rows.shakeSendsRow.holds Try.pinned (OpenSpec.ofChange Rows.shakeSendsSpec) :=
  OpenClaim.holds_of_wide 6 Try.f6 rfl rfl rfl rfl rfl rfl rfl ⟨rfl, rfl, rfl, rfl, rfl⟩ rfl rfl rfl rfl rfl (by kernel_rfl) Try.func6 (by kernel_rfl)
    (of_decide_eq_true (by kernel_rfl)) (by unfold Func.isWrapper; rw [if_neg (of_decide_eq_false (by kernel_rfl))]; exact ⟨rfl, rfl⟩)
    (fun os started H enc _ => shakeSends_lifted os started H enc)

/-- THE STATEMENT. -/
theorem shakeSends_holds : Rows.ShakeSendsSaid := shakeSends_over
end Go.Proofs.Ytnngknmmokajgaa
