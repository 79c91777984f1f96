/- ShakeMakes: any end asks, answers, confirms and is done as the document says. -/
import Derived.Test.YtnngknmmokajgaaAwake10
import Derived.Test.YtnngknmmokajgaaPduIn
import Derived.Test.YtnngknmmokajgaaShakeIn
import Derived.Test.YtnngknmmokajgaaShakeRefAnswer
import Derived.Test.YtnngknmmokajgaaShakeRefConfirm
import Derived.Test.YtnngknmmokajgaaShakeRefDone
set_option linter.unusedSimpArgs false
set_option linter.unusedVariables false
namespace Go.Proofs.Ytnngknmmokajgaa
open Go.ChangeShapes Go.WideShapes Go.ChangeAt Go.RowKit
open Go.ChangeMaps (open_string shut_string)

theorem seal_body (k : K4) (q : P7) : (seal7 k q).body = q.body := (seal_fields k q).2.2.2.2.2
theorem ask_body (p : Peer10) (n : BitVec 32) : (askQ p n).body = [] := by unfold askQ; split <;> rfl
theorem answer_body (p : Peer10) (q : P7) (n : BitVec 32) : (answerQ p q n).body = [] := by unfold answerQ; split <;> first | rfl | exact seal_body _ _
theorem confirm_body (p : Peer10) (q : P7) : (confirmQ p q).body = [] := by unfold confirmQ; split <;> first | rfl | exact seal_body _ _
theorem same_own (Q : P7) (hb : Q.body = []) (W : World) (A1 A2 : Option Addr) (c1 c2 : Nat) (h1 : ∀ W, Bytes W A1 c1 []) (h2 : ∀ W, Bytes W A2 c2 []) : Calls Try.prog 12 #[.agg (pduC Q A1 0 c1), .agg (pduC Q A2 0 c2)] W fun e w' => e = .returned (.bool true) ∧ Below W.heap.size W w' := by
  have := same_k Q Q A1 0 c1 A2 0 c2 W (by rw [hb]; rfl) (by rw [hb]; rfl) (by rw [hb]; exact h1 W) (by rw [hb]; exact h2 W)
  rwa [decide_eq_true rfl] at this
set_option maxRecDepth 20000 in
set_option maxHeartbeats 16000000 in
theorem shakeMakes_walk (p : Peer10) (v : Value) (q : P7) (n : BitVec 32) (w : World) (hv : IsPduB q v w) : Calls Try.prog 3 #[.agg (peerC p), v, q32 n] w fun e w' => e = .returned (.bool true) ∧ Below w.heap.size w w' := by
  obtain ⟨A, c0, rfl, hB⟩ := hv
  have hl := hB.len_le
  show Calls Try.prog 3 #[.agg (peerC p), .agg (pduC q A q.body.length c0), q32 n] w _
  have hO : Own w _ [_, _] := Own.start2 w 26 30 (peerC p) (pduC q A q.body.length c0)
  by_cases hlen : q.body.length ≤ 2000
  · have e0 := fun W => run_eql_peer p W
    obtain ⟨Pa, hPa⟩ : ∃ P, askP p n = P := ⟨_, rfl⟩
    obtain ⟨Qa, hQa⟩ : ∃ Q, askQ p n = Q := ⟨_, rfl⟩
    obtain ⟨Ea, hEa⟩ : ∃ E, askE p = E := ⟨_, rfl⟩
    have hba : Qa.body = [] := by rw [← hQa]; exact ask_body p n
    obtain ⟨Pg, hPg⟩ : ∃ P, answerP p q n = P := ⟨_, rfl⟩
    obtain ⟨Qg, hQg⟩ : ∃ Q, answerQ p q n = Q := ⟨_, rfl⟩
    obtain ⟨Eg, hEg⟩ : ∃ E, answerE p q = E := ⟨_, rfl⟩
    have hbg : Qg.body = [] := by rw [← hQg]; exact answer_body p q n
    obtain ⟨Pm, hPm⟩ : ∃ P, confirmP p q = P := ⟨_, rfl⟩
    obtain ⟨Qm, hQm⟩ : ∃ Q, confirmQ p q = Q := ⟨_, rfl⟩
    obtain ⟨Em, hEm⟩ : ∃ E, confirmE p q = E := ⟨_, rfl⟩
    have hbm : Qm.body = [] := by rw [← hQm]; exact confirm_body p q
    obtain ⟨Pv, hPv⟩ : ∃ P, doneP p q = P := ⟨_, rfl⟩
    obtain ⟨Ev, hEv⟩ : ∃ E, doneE p q = E := ⟨_, rfl⟩
    have ha1 : ∀ W, Calls Try.prog 10 #[.agg (peerC p), q32 n] W fun e w' => ∃ A' c', e = .returned (.tuple #[.agg (peerC Pa), .agg (pduC Qa A' 0 c'), .int .i64 Ea]) ∧ (∀ W, Bytes W A' c' []) ∧ Below W.heap.size W w' := fun W => by
      have := shask_k p n W
      rw [hPa, hQa, hEa] at this
      exact this.mono fun e w' h => ret_nil hba h
    have ha2 : ∀ W, Calls Try.prog 11 #[.agg (peerC p), q32 n] W fun e w' => ∃ A' c', e = .returned (.tuple #[.agg (peerC Pa), .agg (pduC Qa A' 0 c'), .int .i64 Ea]) ∧ (∀ W, Bytes W A' c' []) ∧ Below W.heap.size W w' := fun W => by
      have := rshask_k p n W
      rw [hPa, hQa, hEa] at this
      exact this.mono fun e w' h => ret_nil hba h
    have hg1 : ∀ W, Bytes W A c0 q.body → Calls Try.prog 13 #[.agg (peerC p), .agg (pduC q A q.body.length c0), q32 n] W fun e w' => ∃ A' c', e = .returned (.tuple #[.agg (peerC Pg), .agg (pduC Qg A' 0 c'), .int .i64 Eg]) ∧ (∀ W, Bytes W A' c' []) ∧ Below W.heap.size W w' := fun W h => by
      have := shanswer_k p q n A q.body.length c0 W rfl h hlen
      rw [hPg, hQg, hEg] at this
      exact this.mono fun e w' h => ret_nil hbg h
    have hg2 : ∀ W, Bytes W A c0 q.body → Calls Try.prog 14 #[.agg (peerC p), .agg (pduC q A q.body.length c0), q32 n] W fun e w' => ∃ A' c', e = .returned (.tuple #[.agg (peerC Pg), .agg (pduC Qg A' 0 c'), .int .i64 Eg]) ∧ (∀ W, Bytes W A' c' []) ∧ Below W.heap.size W w' := fun W h => by
      have := rshanswer_k p q n A q.body.length c0 W rfl h hlen
      rw [hPg, hQg, hEg] at this
      exact this.mono fun e w' h => ret_nil hbg h
    have hm1 : ∀ W, Bytes W A c0 q.body → Calls Try.prog 15 #[.agg (peerC p), .agg (pduC q A q.body.length c0)] W fun e w' => ∃ A' c', e = .returned (.tuple #[.agg (peerC Pm), .agg (pduC Qm A' 0 c'), .int .i64 Em]) ∧ (∀ W, Bytes W A' c' []) ∧ Below W.heap.size W w' := fun W h => by
      have := shconfirm_k p q A q.body.length c0 W rfl h hlen
      rw [hPm, hQm, hEm] at this
      exact this.mono fun e w' h => ret_nil hbm h
    have hm2 : ∀ W, Bytes W A c0 q.body → Calls Try.prog 16 #[.agg (peerC p), .agg (pduC q A q.body.length c0)] W fun e w' => ∃ A' c', e = .returned (.tuple #[.agg (peerC Pm), .agg (pduC Qm A' 0 c'), .int .i64 Em]) ∧ (∀ W, Bytes W A' c' []) ∧ Below W.heap.size W w' := fun W h => by
      have := rshconfirm_k p q A q.body.length c0 W rfl h hlen
      rw [hPm, hQm, hEm] at this
      exact this.mono fun e w' h => ret_nil hbm h
    have hv1 : ∀ W, Bytes W A c0 q.body → Calls Try.prog 17 #[.agg (peerC p), .agg (pduC q A q.body.length c0)] W fun e w' => e = .returned (.tuple #[.agg (peerC Pv), .int .i64 Ev]) ∧ Below W.heap.size W w' := fun W h => by
      have := shdone_k p q A q.body.length c0 W rfl h hlen
      rw [hPv, hEv] at this
      exact this
    have hv2 : ∀ W, Bytes W A c0 q.body → Calls Try.prog 18 #[.agg (peerC p), .agg (pduC q A q.body.length c0)] W fun e w' => e = .returned (.tuple #[.agg (peerC Pv), .int .i64 Ev]) ∧ Below W.heap.size W w' := fun W h => by
      have := rshdone_k p q A q.body.length c0 W rfl h hlen
      rw [hPv, hEv] at this
      exact this
    have hsa := same_own Qa hba
    have hsg := same_own Qg hbg
    have hsm := same_own Qm hbm
    have ea := fun W => run_eql_peer Pa W
    have eg := fun W => run_eql_peer Pg W
    have em := fun W => run_eql_peer Pm W
    have ev := fun W => run_eql_peer Pv W
    clear hba hbg hbm hPa hQa hEa hPg hQg hEg hPm hQm hEm hPv hEv e0
    go_enter Try.func3, Try.ntmps3
    go_wp2_with (first
      | (go_at_call 9; (with_reducible refine (awake10_any _).mono ?_); rintro e w1 ⟨rfl, hb1⟩; replace hO := hO.grow hb1; have f15 : w1.cell? ⟨w.heap.size + 1, 5, none⟩ = some (.slice A q.body.length c0) := (hO.b1.cell 5).trans rfl)
      | ((with_reducible refine own_loadg0 hO ?_ _ rfl rfl _ Try.underlying26 rfl (peer_size _) ?_); (· first | rfl | (simp [Region.wanted, yielded]; done)))
      | ((with_reducible refine own_loadg1 hO ?_ _ rfl rfl _ Try.underlying30 rfl (pdu_size _ _ _ _) ?_); (· first | rfl | (simp [Region.wanted, yielded]; done)))
      | (go_at_call 10; (with_reducible refine (ha1 _).mono ?_); rintro e w2 ⟨A2, c2, rfl, hN2, hb2⟩; replace hO := hO.grow hb2)
      | (with_reducible refine own_row2 (peerC Pa) (hO.two2 26 30 #[.int .i64 0, .int .i64 0, .int .u32 0, .int .u32 0, .int .u32 0, .int .u32 0, .int .i64 0, .int .u32 0, .int .u32 0, .int .u32 0, .int .u32 0, .int .u32 0, .int .u32 0, .bool false, .int .u32 0, .int .u32 0] #[.int .i64 0, .int .i64 0, .int .i64 0, .int .u32 0, .int .u32 0, .slice none 0 0, .int .u64 0]) rfl _ _ rfl rfl rfl (peer_size Pa) (by kernel_rfl) (peer_cells Pa) ?_; intro w21 hO21 hz21 hk21; replace hO := hO21; clear hO21 hz21 hk21)
      | (with_reducible refine own_row3 (pduC Qa A2 0 c2) hO rfl _ _ rfl rfl rfl (pdu_size Qa A2 0 c2) (by kernel_rfl) (pdu_cells Qa A2 0 c2) ?_; intro w22 hO22 hz22 hk22; replace hO := hO22; clear hO22 hz22 hk22)
      | ((with_reducible refine own_loadg2 hO ?_ _ rfl rfl _ Try.underlying26 rfl (peer_size _) ?_); (· first | rfl | (simp [Region.wanted, yielded]; done)))
      | ((with_reducible refine own_loadg3 hO ?_ _ rfl rfl _ Try.underlying30 rfl (pdu_size _ _ _ _) ?_); (· first | rfl | (simp [Region.wanted, yielded]; done)))
      | (go_at_call 11; (with_reducible refine (ha2 _).mono ?_); rintro e w3 ⟨A3, c3, rfl, hN3, hb3⟩; replace hO := hO.grow hb3)
      | (with_reducible refine own_row4 (peerC Pa) (hO.two4 26 30 #[.int .i64 0, .int .i64 0, .int .u32 0, .int .u32 0, .int .u32 0, .int .u32 0, .int .i64 0, .int .u32 0, .int .u32 0, .int .u32 0, .int .u32 0, .int .u32 0, .int .u32 0, .bool false, .int .u32 0, .int .u32 0] #[.int .i64 0, .int .i64 0, .int .i64 0, .int .u32 0, .int .u32 0, .slice none 0 0, .int .u64 0]) rfl _ _ rfl rfl rfl (peer_size Pa) (by kernel_rfl) (peer_cells Pa) ?_; intro w31 hO31 hz31 hk31; replace hO := hO31; clear hO31 hz31 hk31)
      | (with_reducible refine own_row5 (pduC Qa A3 0 c3) hO rfl _ _ rfl rfl rfl (pdu_size Qa A3 0 c3) (by kernel_rfl) (pdu_cells Qa A3 0 c3) ?_; intro w32 hO32 hz32 hk32; replace hO := hO32; clear hO32 hz32 hk32)
      | ((with_reducible refine own_loadg4 hO ?_ _ rfl rfl _ Try.underlying26 rfl (peer_size _) ?_); (· first | rfl | (simp [Region.wanted, yielded]; done)))
      | ((with_reducible refine own_loadg5 hO ?_ _ rfl rfl _ Try.underlying30 rfl (pdu_size _ _ _ _) ?_); (· first | rfl | (simp [Region.wanted, yielded]; done)))
      | (go_at_call 12; (with_reducible refine (hsa _ A2 A3 c2 c3 hN2 hN3).mono ?_); rintro e w4 ⟨rfl, hb4⟩; replace hO := hO.grow hb4)
      | (go_at_call 13; (with_reducible refine (hg1 _ (hB.below hO.below)).mono ?_); rintro e w5 ⟨A5, c5, rfl, hN5, hb5⟩; replace hO := hO.grow hb5)
      | (with_reducible refine own_row6 (peerC Pg) (hO.two6 26 30 #[.int .i64 0, .int .i64 0, .int .u32 0, .int .u32 0, .int .u32 0, .int .u32 0, .int .i64 0, .int .u32 0, .int .u32 0, .int .u32 0, .int .u32 0, .int .u32 0, .int .u32 0, .bool false, .int .u32 0, .int .u32 0] #[.int .i64 0, .int .i64 0, .int .i64 0, .int .u32 0, .int .u32 0, .slice none 0 0, .int .u64 0]) rfl _ _ rfl rfl rfl (peer_size Pg) (by kernel_rfl) (peer_cells Pg) ?_; intro w51 hO51 hz51 hk51; replace hO := hO51; clear hO51 hz51 hk51)
      | (with_reducible refine own_row7 (pduC Qg A5 0 c5) hO rfl _ _ rfl rfl rfl (pdu_size Qg A5 0 c5) (by kernel_rfl) (pdu_cells Qg A5 0 c5) ?_; intro w52 hO52 hz52 hk52; replace hO := hO52; clear hO52 hz52 hk52)
      | ((with_reducible refine own_loadg6 hO ?_ _ rfl rfl _ Try.underlying26 rfl (peer_size _) ?_); (· first | rfl | (simp [Region.wanted, yielded]; done)))
      | ((with_reducible refine own_loadg7 hO ?_ _ rfl rfl _ Try.underlying30 rfl (pdu_size _ _ _ _) ?_); (· first | rfl | (simp [Region.wanted, yielded]; done)))
      | (go_at_call 14; (with_reducible refine (hg2 _ (hB.below hO.below)).mono ?_); rintro e w6 ⟨A6, c6, rfl, hN6, hb6⟩; replace hO := hO.grow hb6)
      | (with_reducible refine own_row8 (peerC Pg) (hO.two8 26 30 #[.int .i64 0, .int .i64 0, .int .u32 0, .int .u32 0, .int .u32 0, .int .u32 0, .int .i64 0, .int .u32 0, .int .u32 0, .int .u32 0, .int .u32 0, .int .u32 0, .int .u32 0, .bool false, .int .u32 0, .int .u32 0] #[.int .i64 0, .int .i64 0, .int .i64 0, .int .u32 0, .int .u32 0, .slice none 0 0, .int .u64 0]) rfl _ _ rfl rfl rfl (peer_size Pg) (by kernel_rfl) (peer_cells Pg) ?_; intro w61 hO61 hz61 hk61; replace hO := hO61; clear hO61 hz61 hk61)
      | (with_reducible refine own_row9 (pduC Qg A6 0 c6) hO rfl _ _ rfl rfl rfl (pdu_size Qg A6 0 c6) (by kernel_rfl) (pdu_cells Qg A6 0 c6) ?_; intro w62 hO62 hz62 hk62; replace hO := hO62; clear hO62 hz62 hk62)
      | ((with_reducible refine own_loadg8 hO ?_ _ rfl rfl _ Try.underlying26 rfl (peer_size _) ?_); (· first | rfl | (simp [Region.wanted, yielded]; done)))
      | ((with_reducible refine own_loadg9 hO ?_ _ rfl rfl _ Try.underlying30 rfl (pdu_size _ _ _ _) ?_); (· first | rfl | (simp [Region.wanted, yielded]; done)))
      | (go_at_call 12; (with_reducible refine (hsg _ A5 A6 c5 c6 hN5 hN6).mono ?_); rintro e w7 ⟨rfl, hb7⟩; replace hO := hO.grow hb7)
      | (go_at_call 15; (with_reducible refine (hm1 _ (hB.below hO.below)).mono ?_); rintro e w8 ⟨A8, c8, rfl, hN8, hb8⟩; replace hO := hO.grow hb8)
      | (with_reducible refine own_row10 (peerC Pm) (hO.two10 26 30 #[.int .i64 0, .int .i64 0, .int .u32 0, .int .u32 0, .int .u32 0, .int .u32 0, .int .i64 0, .int .u32 0, .int .u32 0, .int .u32 0, .int .u32 0, .int .u32 0, .int .u32 0, .bool false, .int .u32 0, .int .u32 0] #[.int .i64 0, .int .i64 0, .int .i64 0, .int .u32 0, .int .u32 0, .slice none 0 0, .int .u64 0]) rfl _ _ rfl rfl rfl (peer_size Pm) (by kernel_rfl) (peer_cells Pm) ?_; intro w81 hO81 hz81 hk81; replace hO := hO81; clear hO81 hz81 hk81)
      | (with_reducible refine own_row11 (pduC Qm A8 0 c8) hO rfl _ _ rfl rfl rfl (pdu_size Qm A8 0 c8) (by kernel_rfl) (pdu_cells Qm A8 0 c8) ?_; intro w82 hO82 hz82 hk82; replace hO := hO82; clear hO82 hz82 hk82)
      | ((with_reducible refine own_loadg10 hO ?_ _ rfl rfl _ Try.underlying26 rfl (peer_size _) ?_); (· first | rfl | (simp [Region.wanted, yielded]; done)))
      | ((with_reducible refine own_loadg11 hO ?_ _ rfl rfl _ Try.underlying30 rfl (pdu_size _ _ _ _) ?_); (· first | rfl | (simp [Region.wanted, yielded]; done)))
      | (go_at_call 16; (with_reducible refine (hm2 _ (hB.below hO.below)).mono ?_); rintro e w9 ⟨A9, c9, rfl, hN9, hb9⟩; replace hO := hO.grow hb9)
      | (with_reducible refine own_row12 (peerC Pm) (hO.two12 26 30 #[.int .i64 0, .int .i64 0, .int .u32 0, .int .u32 0, .int .u32 0, .int .u32 0, .int .i64 0, .int .u32 0, .int .u32 0, .int .u32 0, .int .u32 0, .int .u32 0, .int .u32 0, .bool false, .int .u32 0, .int .u32 0] #[.int .i64 0, .int .i64 0, .int .i64 0, .int .u32 0, .int .u32 0, .slice none 0 0, .int .u64 0]) rfl _ _ rfl rfl rfl (peer_size Pm) (by kernel_rfl) (peer_cells Pm) ?_; intro w91 hO91 hz91 hk91; replace hO := hO91; clear hO91 hz91 hk91)
      | (with_reducible refine own_row13 (pduC Qm A9 0 c9) hO rfl _ _ rfl rfl rfl (pdu_size Qm A9 0 c9) (by kernel_rfl) (pdu_cells Qm A9 0 c9) ?_; intro w92 hO92 hz92 hk92; replace hO := hO92; clear hO92 hz92 hk92)
      | ((with_reducible refine own_loadg12 hO ?_ _ rfl rfl _ Try.underlying26 rfl (peer_size _) ?_); (· first | rfl | (simp [Region.wanted, yielded]; done)))
      | ((with_reducible refine own_loadg13 hO ?_ _ rfl rfl _ Try.underlying30 rfl (pdu_size _ _ _ _) ?_); (· first | rfl | (simp [Region.wanted, yielded]; done)))
      | (go_at_call 12; (with_reducible refine (hsm _ A8 A9 c8 c9 hN8 hN9).mono ?_); rintro e w10 ⟨rfl, hb10⟩; replace hO := hO.grow hb10)
      | (go_at_call 17; (with_reducible refine (hv1 _ (hB.below hO.below)).mono ?_); rintro e w11 ⟨rfl, hb11⟩; replace hO := hO.grow hb11)
      | (with_reducible refine own_row14 (peerC Pv) (hO.new14 26 #[.int .i64 0, .int .i64 0, .int .u32 0, .int .u32 0, .int .u32 0, .int .u32 0, .int .i64 0, .int .u32 0, .int .u32 0, .int .u32 0, .int .u32 0, .int .u32 0, .int .u32 0, .bool false, .int .u32 0, .int .u32 0]) rfl _ _ rfl rfl rfl (peer_size Pv) (by kernel_rfl) (peer_cells Pv) ?_; intro w111 hO111 hz111 hk111; replace hO := hO111; clear hO111 hz111 hk111)
      | ((with_reducible refine own_loadg14 hO ?_ _ rfl rfl _ Try.underlying26 rfl (peer_size _) ?_); (· first | rfl | (simp [Region.wanted, yielded]; done)))
      | (go_at_call 18; (with_reducible refine (hv2 _ (hB.below hO.below)).mono ?_); rintro e w12 ⟨rfl, hb12⟩; replace hO := hO.grow hb12)
      | (with_reducible refine own_row15 (peerC Pv) (hO.new15 26 #[.int .i64 0, .int .i64 0, .int .u32 0, .int .u32 0, .int .u32 0, .int .u32 0, .int .i64 0, .int .u32 0, .int .u32 0, .int .u32 0, .int .u32 0, .int .u32 0, .int .u32 0, .bool false, .int .u32 0, .int .u32 0]) rfl _ _ rfl rfl rfl (peer_size Pv) (by kernel_rfl) (peer_cells Pv) ?_; intro w121 hO121 hz121 hk121; replace hO := hO121; clear hO121 hz121 hk121)
      | ((with_reducible refine own_loadg15 hO ?_ _ rfl rfl _ Try.underlying26 rfl (peer_size _) ?_); (· first | rfl | (simp [Region.wanted, yielded]; done))))
    go_ret
    exact ⟨rfl, hO.below⟩
  · have hlen' : 2000 < q.body.length := by omega
    go_enter Try.func3, Try.ntmps3
    go_wp2_with (first
      | (go_at_call 9; (with_reducible refine (awake10_any _).mono ?_); rintro e w1 ⟨rfl, hb1⟩; replace hO := hO.grow hb1; have f15 : w1.cell? ⟨w.heap.size + 1, 5, none⟩ = some (.slice A q.body.length c0) := (hO.b1.cell 5).trans rfl))
    go_ret
    exact ⟨rfl, hO.below⟩
set_option maxRecDepth 100000 in
theorem shakeMakes_lifted (os : Os) (started : os.Started) (H : Type) (enc : TypeId × Value → H) :
    ReturnsInHanded {} Try.checked os 3 .any (Rows.shakeMakesSpec.pre6 enc Try.prog Try.f3 Rows.shakeMakesRow.domain false) (Rows.shakeMakesSpec.post enc Try.prog Try.f3 false true false false) := by
  refine returnsInHanded_of_change (C := Try.checked) own started (by kernel_rfl) Try.func3
    (ChangeSpec.witness6 (enc := enc) (C := Try.checked) false ⟨#[], #[.agg #[.int .i64 0, .int .i64 0, .int .u32 0, .int .u32 0, .int .u32 0, .int .u32 0, .int .i64 0, .int .u32 0, .int .u32 0, .int .u32 0, .int .u32 0, .int .u32 0, .int .u32 0, .bool false, .int .u32 0, .int .u32 0], .agg #[.int .i64 0, .int .i64 0, .int .i64 0, .int .u32 0, .int .u32 0, .slice none 0 0, .int .u64 0], .int .u32 0], []⟩ 8 (by kernel_rfl) (by kernel_rfl) (by kernel_rfl) (by kernel_rfl)) ?_
  intro W base args ds gs before hval0 hW hcnd _
  have hval : ∀ (j : Nat) t v, Try.f3.params[j]? = some t → args[j]? = some v → Value.okWide Try.prog W .any base t v := hval0
  have hW' := hW
  obtain ⟨p, q, hA0, hV, rfl, hfz, hnd⟩ := hW
  have hA : DataW.TrodAll enc Try.prog W 0 (fun _ => true) true Try.f3.params.toList args.toList ds p := hA0
  rw [Try.params3] at hA hval
  obtain ⟨v0, vs0, d0, ds0, p0, q0, hargs, rfl, rfl, h0, r0⟩ := trodAll_cons hA
  obtain ⟨v1, vs1, d1, ds1, p1, q1, rfl, rfl, rfl, h1, r1⟩ := trodAll_cons r0
  obtain ⟨v2, vs2, d2, ds2, p2, q2, rfl, rfl, rfl, h2, r2⟩ := trodAll_cons r1
  obtain ⟨rfl, rfl, rfl⟩ := trodAll_nil r2
  obtain rfl : args = #[v0, v1, v2] := by cases args; simp_all
  obtain ⟨rfl, rfl⟩ := trodVars_none hV
  have k0 := h0
  have lt0 : ∀ x ∈ p0, x.block < W.heap.size := by obtain ⟨m, hm⟩ := k0; exact DataW.trod_lt m _ _ _ hm
  have k1 := h1
  have lt1 : ∀ x ∈ p1, x.block < W.heap.size := by obtain ⟨m, hm⟩ := k1; exact DataW.trod_lt m _ _ _ hm
  have k2 := h2
  have lt2 : ∀ x ∈ p2, x.block < W.heap.size := by obtain ⟨m, hm⟩ := k2; exact DataW.trod_lt m _ _ _ hm
  obtain ⟨a0, rfl⟩ := open_peer (hval 0 26 v0 rfl rfl) h0
  obtain ⟨s1, b1⟩ := open_pdu (hval 1 30 v1 rfl rfl) h1
  obtain ⟨a2, rfl⟩ := open_q32 (hval 2 22 v2 rfl rfl) h2
  clear hA0 hval0
  refine (shakeMakes_walk a0 v1 s1 a2 W b1).mono fun e W' ⟨he, bel⟩ => ?_
  subst he
  exact ⟨_, rfl, _, _, _, [], _, [], hW', trodAll_mk1 (shut_bool Try.underlying4 _), (trodAll_cons_mk (Below.trod laidOut (by kernel_rfl) (of_decide_eq_true (by kernel_rfl)) k0 bel lt0) (trodAll_cons_mk (Below.trod laidOut (by kernel_rfl) (of_decide_eq_true (by kernel_rfl)) k1 bel lt1) (trodAll_cons_mk (Below.trod laidOut (by kernel_rfl) (of_decide_eq_true (by kernel_rfl)) k2 bel lt2) trodAll_mk0))), rfl, bel.frame _, fun h => by cases h⟩

theorem shakeMakes_over : Rows.shakeMakesRow.holds Try.pinned (OpenSpec.ofChange Rows.shakeMakesSpec) :=
  OpenClaim.holds_of_wide 3 Try.f3 rfl rfl rfl rfl rfl rfl rfl ⟨rfl, rfl, rfl, rfl, rfl⟩ rfl rfl rfl rfl rfl (by kernel_rfl) Try.func3 (by kernel_rfl)
    (of_decide_eq_true (by kernel_rfl)) (by unfold Func.isWrapper; rw [if_neg (of_decide_eq_false (by kernel_rfl))]; exact ⟨rfl, rfl⟩)
    (fun os started H enc _ => shakeMakes_lifted os started H enc)

/-- THE STATEMENT. -/
theorem shakeMakes_holds : Rows.ShakeMakesSaid := shakeMakes_over
end Go.Proofs.Ytnngknmmokajgaa
