/- ShakeKeeps: a question that comes anew changes nothing of a connection that is up. -/
import Derived.Test.YtnngknmmokajgaaAwake10
import Derived.Test.YtnngknmmokajgaaPduIn
set_option linter.unusedSimpArgs false
set_option linter.unusedVariables false
namespace Go.Proofs.Ytnngknmmokajgaa
open Go.ChangeShapes Go.WideShapes Go.ChangeAt Go.RowKit
open Go.ChangeMaps (open_string shut_string)

def keptY (base : K4) (train : Int) (a b c d : BitVec 32) : Peer10 := ⟨1, train, base, 2, a, b, Derive base a b, true, c, d⟩
theorem keptY_up (base : K4) (train : Int) (a b c d : BitVec 32) : IsUp (keptY base train a b c d) train b (Derive base a b) := ⟨rfl, rfl, rfl, rfl⟩
set_option maxHeartbeats 8000000 in
theorem shakeKeeps_walk (base : K4) (train : Int) (tlo : -9223372036854775808 ≤ train) (thi : train ≤ 9223372036854775807) (a b c d : BitVec 32) (v : Value) (body : List UInt8) (w : World) (hv : IsBytes body v w) : Calls Try.prog 5 #[.agg #[q32 base.k0, q32 base.k1, q32 base.k2, q32 base.k3], .int .i64 train, q32 a, q32 b, q32 c, q32 d, v] w fun e w' => e = .returned (.bool true) ∧ Below w.heap.size w w' := by
  obtain ⟨A, c0, rfl, hB⟩ := hv
  have hl := hB.len_le
  by_cases hg : 1 ≤ body.length ∧ body.length ≤ 1023 ∧ 0 ≤ train ∧ train < 16777216
  · obtain ⟨g1, g2, g3, g4⟩ := hg
    have hbo := fun W => both_k base train a b W g3 g4
    have hda : ∀ W, Bytes W A c0 body → Calls Try.prog 20 #[.agg (peerC (endX base train a b)), .slice A body.length c0] W fun e w' => ∃ A' c', e = .returned (.tuple #[.agg (pduC (sent7 (Derive base a b) 0 train b body) A' body.length c'), .int .i64 0]) ∧ Bytes w' A' c' body ∧ Below W.heap.size W w' := fun W h => by
      obtain ⟨e1, e2⟩ := data_up (endX_up base train a b) g3 g4 body g1 g2
      have := shdata_k (endX base train a b) body A body.length c0 W rfl h (by omega)
      rw [e1, e2] at this
      exact this
    have han : ∀ W, Calls Try.prog 13 #[.agg (peerC (endY base train a b)), .agg #[.int .i64 1, .int .i64 0, .int .i64 train, q32 c, .int .u32 0, .slice none 0 0, .int .u64 0], q32 d] W fun e w' => ∃ A' c', e = .returned (.tuple #[.agg (peerC (keptY base train a b c d)), .agg (pduC (ans7 base train c d) A' 0 c'), .int .i64 0]) ∧ Below W.heap.size W w' := fun W => by
      obtain ⟨e1, e2, e3⟩ := answer_up base train a b g3 g4 c d
      have := shanswer_k (endY base train a b) (ask7 train c) d none 0 0 W rfl (Bytes.nil _) (by show (0 : Nat) ≤ 2000; decide)
      unfold ask7 at this
      rw [e1, e2, e3] at this
      refine this.mono fun e w' h => ?_
      obtain ⟨A', c', e, _, hb⟩ := ret_nil rfl h
      exact ⟨A', c', e, hb⟩
    have hta : ∀ W A1 c1, Bytes W A1 c1 body → Calls Try.prog 21 #[.agg (peerC (keptY base train a b c d)), .agg (pduC (sent7 (Derive base a b) 0 train b body) A1 body.length c1)] W fun e w' => ∃ A' c', e = .returned (.tuple #[.slice A' body.length c', .int .i64 0]) ∧ Bytes w' A' c' body ∧ Below W.heap.size W w' := fun W A1 c1 h => by
      obtain ⟨e1, e2⟩ := take_same (keptY_up base train a b c d) g3 g4 0 (by decide) (by decide) (by show (0 : Int) ≠ (if (1 : Int) = 0 then 0 else 1); decide) body g1 g2
      have := shtake_k (keptY base train a b c d) (sent7 (Derive base a b) 0 train b body) A1 body.length c1 W rfl h (by show body.length ≤ 2000; omega)
      rw [show taken10 (keptY base train a b c d) (sent7 (Derive base a b) 0 train b body) 5 = 0 from e1] at this
      refine this.mono ?_
      rintro e w' ⟨v, rfl, hv, hb⟩
      rw [show takeB (keptY base train a b c d) (sent7 (Derive base a b) 0 train b body) = body from e2] at hv
      obtain ⟨A', c', rfl, hB⟩ := hv
      exact ⟨A', c', rfl, hB, hb⟩
    have hO : Own w _ [_] := (Own.nil w).new0 24 #[q32 base.k0, q32 base.k1, q32 base.k2, q32 base.k3]
    go_enter Try.func5, Try.ntmps5
    go_wp2_with (first
      | (go_at_call 9; (with_reducible refine (awake10_any _).mono ?_); rintro e w1 ⟨rfl, hb1⟩; replace hO := hO.grow hb1)
      | ((with_reducible refine own_loadg0 hO ?_ _ rfl rfl _ Try.underlying24 rfl (by kernel_rfl) ?_); (· first | rfl | (simp [Region.wanted, yielded]; done)))
      | (go_at_call 19; (with_reducible refine (hbo _).mono ?_); rintro e w2 ⟨rfl, hb2⟩; replace hO := hO.grow hb2)
      | (with_reducible refine own_row1 (peerC (endX base train a b)) (hO.two1 26 26 #[.int .i64 0, .int .i64 0, .int .u32 0, .int .u32 0, .int .u32 0, .int .u32 0, .int .i64 0, .int .u32 0, .int .u32 0, .int .u32 0, .int .u32 0, .int .u32 0, .int .u32 0, .bool false, .int .u32 0, .int .u32 0] #[.int .i64 0, .int .i64 0, .int .u32 0, .int .u32 0, .int .u32 0, .int .u32 0, .int .i64 0, .int .u32 0, .int .u32 0, .int .u32 0, .int .u32 0, .int .u32 0, .int .u32 0, .bool false, .int .u32 0, .int .u32 0]) rfl _ _ rfl rfl rfl (peer_size (endX base train a b)) (by kernel_rfl) (peer_cells (endX base train a b)) ?_; intro w21 hO21 hz21 hk21; replace hO := hO21; clear hO21 hz21 hk21)
      | (with_reducible refine own_row2 (peerC (endY base train a b)) hO rfl _ _ rfl rfl rfl (peer_size (endY base train a b)) (by kernel_rfl) (peer_cells (endY base train a b)) ?_; intro w22 hO22 hz22 hk22; replace hO := hO22; clear hO22 hz22 hk22)
      | ((with_reducible refine own_loadg1 hO ?_ _ rfl rfl _ Try.underlying26 rfl (peer_size _) ?_); (· first | rfl | (simp [Region.wanted, yielded]; done)))
      | ((with_reducible refine own_loadg2 hO ?_ _ rfl rfl _ Try.underlying26 rfl (peer_size _) ?_); (· first | rfl | (simp [Region.wanted, yielded]; done)))
      | (go_at_call 20; (with_reducible refine (hda _ (hB.below hO.below)).mono ?_); rintro e w3 ⟨A3, c3, rfl, hB3, hb3⟩; replace hO := hO.grow hb3)
      | (with_reducible refine own_row3 (pduC (sent7 (Derive base a b) 0 train b body) A3 body.length c3) (hO.new3 30 #[.int .i64 0, .int .i64 0, .int .i64 0, .int .u32 0, .int .u32 0, .slice none 0 0, .int .u64 0]) rfl _ _ rfl rfl rfl (pdu_size (sent7 (Derive base a b) 0 train b body) A3 body.length c3) (by kernel_rfl) (pdu_cells (sent7 (Derive base a b) 0 train b body) A3 body.length c3) ?_; intro w31 hO31 hz31 hk31; have hB31 := (hB3.alloc _).apart (Blk.new w3 _ _) (by kernel_rfl) hz31 hk31; replace hO := hO31; clear hO31 hz31 hk31)
      | ((with_reducible refine own_loadg3 hO ?_ _ rfl rfl _ Try.underlying30 rfl (pdu_size _ _ _ _) ?_); (· first | rfl | (simp [Region.wanted, yielded]; done)))
      | (go_at_call 13; (with_reducible refine (han _).mono ?_); rintro e w4 ⟨A4, c4, rfl, hb4⟩; have hB4 := hB31.below hb4; replace hO := hO.grow hb4)
      | (with_reducible refine own_row2 (peerC (keptY base train a b c d)) (hO.new4 30 #[.int .i64 0, .int .i64 0, .int .i64 0, .int .u32 0, .int .u32 0, .slice none 0 0, .int .u64 0]) rfl _ _ rfl rfl rfl (peer_size (keptY base train a b c d)) (by kernel_rfl) (peer_cells (keptY base train a b c d)) ?_; intro w41 hO41 hz41 hk41; have hB41 := (hB4.alloc _).apart (hO.new4 30 #[.int .i64 0, .int .i64 0, .int .i64 0, .int .u32 0, .int .u32 0, .slice none 0 0, .int .u64 0]).b2 (peer_no8 (endY base train a b)) hz41 hk41; replace hO := hO41; clear hO41 hz41 hk41)
      | (with_reducible refine own_row4 (pduC (ans7 base train c d) A4 0 c4) hO rfl _ _ rfl rfl rfl (pdu_size (ans7 base train c d) A4 0 c4) (by kernel_rfl) (pdu_cells (ans7 base train c d) A4 0 c4) ?_; intro w42 hO42 hz42 hk42; have hB42 := hB41.apart hO.b4 (by kernel_rfl) hz42 hk42; replace hO := hO42; clear hO42 hz42 hk42)
      | (go_at_call 21; (with_reducible refine (hta _ A3 c3 hB42).mono ?_); rintro e w5 ⟨A5, c5, rfl, hB5, hb5⟩; replace hO := hO.grow hb5; go_loud (have f2_6 : w5.cell? ⟨w2.heap.size + 1, 6, none⟩ = some (.int .i64 2) := (hO.b2.cell 6).trans rfl; have f2_8 : w5.cell? ⟨w2.heap.size + 1, 8, none⟩ = some (q32 b) := (hO.b2.cell 8).trans rfl; have s1 := run_bytes_string hB5; have s2 := run_bytes_string (hB.below hO.below))))
    go_ret
    exact ⟨rfl, hO.below⟩
  · have hg' : body.length < 1 ∨ (1 ≤ body.length ∧ 1023 < body.length) ∨ ((1 ≤ body.length ∧ body.length ≤ 1023) ∧ train < 0) ∨ (((1 ≤ body.length ∧ body.length ≤ 1023) ∧ 0 ≤ train) ∧ 16777216 ≤ train) := by omega
    rcases hg' with g | g | g | g <;>
      (go_enter Try.func5, Try.ntmps5
       go_wp2_with (go_at_call 9; (with_reducible refine (awake10_any _).mono ?_); rintro e w1 ⟨rfl, hb1⟩)
       go_ret
       exact ⟨rfl, below_of_alloc hb1⟩)
set_option maxRecDepth 100000 in
theorem shakeKeeps_lifted (os : Os) (started : os.Started) (H : Type) (enc : TypeId × Value → H) :
    ReturnsInHanded {} Try.checked os 5 .any (Rows.shakeKeepsSpec.pre6 enc Try.prog Try.f5 Rows.shakeKeepsRow.domain false) (Rows.shakeKeepsSpec.post enc Try.prog Try.f5 false true false false) := by
  refine returnsInHanded_of_change (C := Try.checked) own started (by kernel_rfl) Try.func5
    (ChangeSpec.witness6 (enc := enc) (C := Try.checked) false ⟨#[], #[.agg #[.int .u32 0, .int .u32 0, .int .u32 0, .int .u32 0], .int .i64 0, .int .u32 0, .int .u32 0, .int .u32 0, .int .u32 0, .slice none 0 0], []⟩ 8 (by kernel_rfl) (by kernel_rfl) (by kernel_rfl) (by kernel_rfl)) ?_
  intro W base args ds gs before hval0 hW hcnd _
  have hval : ∀ (j : Nat) t v, Try.f5.params[j]? = some t → args[j]? = some v → Value.okWide Try.prog W .any base t v := hval0
  have hW' := hW
  obtain ⟨p, q, hA0, hV, rfl, hfz, hnd⟩ := hW
  have hA : DataW.TrodAll enc Try.prog W 0 (fun _ => true) true Try.f5.params.toList args.toList ds p := hA0
  rw [Try.params5] at hA hval
  obtain ⟨v0, vs0, d0, ds0, p0, q0, hargs, rfl, rfl, h0, r0⟩ := trodAll_cons hA
  obtain ⟨v1, vs1, d1, ds1, p1, q1, rfl, rfl, rfl, h1, r1⟩ := trodAll_cons r0
  obtain ⟨v2, vs2, d2, ds2, p2, q2, rfl, rfl, rfl, h2, r2⟩ := trodAll_cons r1
  obtain ⟨v3, vs3, d3, ds3, p3, q3, rfl, rfl, rfl, h3, r3⟩ := trodAll_cons r2
  obtain ⟨v4, vs4, d4, ds4, p4, q4, rfl, rfl, rfl, h4, r4⟩ := trodAll_cons r3
  obtain ⟨v5, vs5, d5, ds5, p5, q5, rfl, rfl, rfl, h5, r5⟩ := trodAll_cons r4
  obtain ⟨v6, vs6, d6, ds6, p6, q6, rfl, rfl, rfl, h6, r6⟩ := trodAll_cons r5
  obtain ⟨rfl, rfl, rfl⟩ := trodAll_nil r6
  obtain rfl : args = #[v0, v1, v2, v3, v4, v5, v6] := by cases args; simp_all
  obtain ⟨rfl, rfl⟩ := trodVars_none hV
  have k0 := h0
  have lt0 : ∀ x ∈ p0, x.block < W.heap.size := by obtain ⟨m, hm⟩ := k0; exact DataW.trod_lt m _ _ _ hm
  have k1 := h1
  have lt1 : ∀ x ∈ p1, x.block < W.heap.size := by obtain ⟨m, hm⟩ := k1; exact DataW.trod_lt m _ _ _ hm
  have k2 := h2
  have lt2 : ∀ x ∈ p2, x.block < W.heap.size := by obtain ⟨m, hm⟩ := k2; exact DataW.trod_lt m _ _ _ hm
  have k3 := h3
  have lt3 : ∀ x ∈ p3, x.block < W.heap.size := by obtain ⟨m, hm⟩ := k3; exact DataW.trod_lt m _ _ _ hm
  have k4 := h4
  have lt4 : ∀ x ∈ p4, x.block < W.heap.size := by obtain ⟨m, hm⟩ := k4; exact DataW.trod_lt m _ _ _ hm
  have k5 := h5
  have lt5 : ∀ x ∈ p5, x.block < W.heap.size := by obtain ⟨m, hm⟩ := k5; exact DataW.trod_lt m _ _ _ hm
  have k6 := h6
  have lt6 : ∀ x ∈ p6, x.block < W.heap.size := by obtain ⟨m, hm⟩ := k6; exact DataW.trod_lt m _ _ _ hm
  obtain ⟨a0, rfl⟩ := open_key (hval 0 24 v0 rfl rfl) h0
  obtain ⟨a1, rfl, _, _, w1⟩ := open_int Try.underlying3 (hval 1 3 v1 rfl rfl) h1
  obtain ⟨a2, rfl⟩ := open_q32 (hval 2 22 v2 rfl rfl) h2
  obtain ⟨a3, rfl⟩ := open_q32 (hval 3 22 v3 rfl rfl) h3
  obtain ⟨a4, rfl⟩ := open_q32 (hval 4 22 v4 rfl rfl) h4
  obtain ⟨a5, rfl⟩ := open_q32 (hval 5 22 v5 rfl rfl) h5
  obtain ⟨s6, b6⟩ := open_bytes (hval 6 27 v6 rfl rfl) h6
  clear hA0 hval0
  refine (shakeKeeps_walk a0 a1 (bounds_i64 w1).1 (bounds_i64 w1).2 a2 a3 a4 a5 v6 s6 W b6).mono fun e W' ⟨he, bel⟩ => ?_
  subst he
  exact ⟨_, rfl, _, _, _, [], _, [], hW', trodAll_mk1 (shut_bool Try.underlying4 _), (trodAll_cons_mk (Below.trod laidOut (by kernel_rfl) (of_decide_eq_true (by kernel_rfl)) k0 bel lt0) (trodAll_cons_mk (Below.trod laidOut (by kernel_rfl) (of_decide_eq_true (by kernel_rfl)) k1 bel lt1) (trodAll_cons_mk (Below.trod laidOut (by kernel_rfl) (of_decide_eq_true (by kernel_rfl)) k2 bel lt2) (trodAll_cons_mk (Below.trod laidOut (by kernel_rfl) (of_decide_eq_true (by kernel_rfl)) k3 bel lt3) (trodAll_cons_mk (Below.trod laidOut (by kernel_rfl) (of_decide_eq_true (by kernel_rfl)) k4 bel lt4) (trodAll_cons_mk (Below.trod laidOut (by kernel_rfl) (of_decide_eq_true (by kernel_rfl)) k5 bel lt5) (trodAll_cons_mk (Below.trod laidOut (by kernel_rfl) (of_decide_eq_true (by kernel_rfl)) k6 bel lt6) trodAll_mk0))))))), rfl, bel.frame _, fun h => by cases h⟩

theorem shakeKeeps_over : Rows.shakeKeepsRow.holds Try.pinned (OpenSpec.ofChange Rows.shakeKeepsSpec) :=
  OpenClaim.holds_of_wide 5 Try.f5 rfl rfl rfl rfl rfl rfl rfl ⟨rfl, rfl, rfl, rfl, rfl⟩ rfl rfl rfl rfl rfl (by kernel_rfl) Try.func5 (by kernel_rfl)
    (of_decide_eq_true (by kernel_rfl)) (by unfold Func.isWrapper; rw [if_neg (of_decide_eq_false (by kernel_rfl))]; exact ⟨rfl, rfl⟩)
    (fun os started H enc _ => shakeKeeps_lifted os started H enc)

/-- THE STATEMENT. -/
theorem shakeKeeps_holds : Rows.ShakeKeepsSaid := shakeKeeps_over
end Go.Proofs.Ytnngknmmokajgaa
