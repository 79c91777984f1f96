/- Done: the program's. -/
import Derived.Test.YtnngknmmokajgaaShakeSets
import Derived.Test.YtnngknmmokajgaaShakeUp
set_option linter.unusedSimpArgs false
set_option linter.unusedVariables false
namespace Go.Proofs.Ytnngknmmokajgaa
open Go.RowKit Go.Shelf

set_option maxHeartbeats 8000000 in
theorem shdone_err (p : Peer10) (q : P7) (A : Option Addr) (n c : Nat) (w : World) (hn : q.body.length = n) (hB : Bytes w A c q.body) (hlen : q.body.length ≤ 2000) (he : doneE p q ≠ 0) : Calls Try.prog 17 #[.agg (peerC p), .agg #[.int .i64 q.kind, .int .i64 q.dir, .int .i64 q.train, q32 q.a, q32 q.b, .slice A n c, q64 q.mac]] w (RetP10 w Peer10.none_ (doneE p q)) := by
  have hf := fun W => shfits_k p q 3 A n c W hn hlen
  have hr := fun W (h : Bytes W A c q.body) => pright_k p.base q A n c W hn.symm h hlen
  have ht := fun W => shtrain_k p W
  by_cases hs : p.side = 0
  · have e0 : doneE p q = 1 := by unfold doneE; rw [if_pos (.inl hs)]
    rw [e0]
    clear e0 he
    obtain ⟨hs1, hs2⟩ := side_eq p hs
    rw [hs1] at ht
    generalize fits10 p q 3 = fb at *
    clear hs
    cases fb with
    | true =>
      have hO : Own w _ [_, _, _] := Own.start3 w 26 30 26 (peerC p) #[.int .i64 q.kind, .int .i64 q.dir, .int .i64 q.train, q32 q.a, q32 q.b, .slice A n c, q64 q.mac] #[.int .i64 0, .int .i64 0, .int .u32 0, .int .u32 0, .int .u32 0, .int .u32 0, .int .i64 0, .int .u32 0, .int .u32 0, .int .u32 0, .int .u32 0, .int .u32 0, .int .u32 0, .bool false, .int .u32 0, .int .u32 0]
      have hcp0 := fun i => (hO.b0.cell i).trans (peer_cell _ i)
      have hcq0 := hO.b1.cell
      go_enter Try.func17, Try.ntmps17
      go_wp2_with (first
        | ((with_reducible refine own_loadg0 hO ?_ _ rfl rfl _ Try.underlying26 rfl (peer_size p) ?_); (· first | rfl | (simp [Region.wanted, yielded]; done)))
        | ((with_reducible refine own_loadg1 hO ?_ _ rfl rfl _ Try.underlying30 rfl (by kernel_rfl) ?_); (· first | rfl | (simp [Region.wanted, yielded]; done)))
        | (go_at_call 32; (with_reducible refine (hf _).mono ?_); rintro e w1 ⟨rfl, hb1⟩; replace hO := hO.grow hb1; have hcp1 := fun i => (hO.b0.cell i).trans (peer_cell _ i); have hcq1 := hO.b1.cell)
        | (go_at_call 29; (with_reducible refine (ht _).mono ?_); rintro e w2 ⟨rfl, hb2⟩; replace hO := hO.grow hb2; have hcp2 := fun i => (hO.b0.cell i).trans (peer_cell _ i); have hcq2 := hO.b1.cell)
        | (go_at_call 36; (with_reducible refine (hr _ (hB.below hO.below)).mono ?_); rintro e w5 ⟨rfl, hb5⟩; replace hO := hO.grow hb5; have hcp5 := fun i => (hO.b0.cell i).trans (peer_cell _ i); have hcq5 := hO.b1.cell)
        | (with_reducible refine own_row2 (#[.int .i64 0, .int .i64 0, .int .u32 0, .int .u32 0, .int .u32 0, .int .u32 0, .int .i64 0, .int .u32 0, .int .u32 0, .int .u32 0, .int .u32 0, .int .u32 0, .int .u32 0, .bool false, .int .u32 0, .int .u32 0]) hO rfl _ _ rfl rfl rfl (by kernel_rfl) (by kernel_rfl) (by simp [Value.oneCell', q32, q64]) ?_; intro w41 hO41 hz41 hk41; replace hO := hO41; clear hO41 hz41 hk41))
      exact bodyPost_ret (results_ct Try.results17 _ _ _ _ _ _ rfl rfl hO.b2 Try.underlying26 rfl (by kernel_rfl)) rfl ⟨by rw [peer_none]; rfl, hO.below⟩
    | false =>
      have hO : Own w _ [_, _, _] := Own.start3 w 26 30 26 (peerC p) #[.int .i64 q.kind, .int .i64 q.dir, .int .i64 q.train, q32 q.a, q32 q.b, .slice A n c, q64 q.mac] #[.int .i64 0, .int .i64 0, .int .u32 0, .int .u32 0, .int .u32 0, .int .u32 0, .int .i64 0, .int .u32 0, .int .u32 0, .int .u32 0, .int .u32 0, .int .u32 0, .int .u32 0, .bool false, .int .u32 0, .int .u32 0]
      have hcp0 := fun i => (hO.b0.cell i).trans (peer_cell _ i)
      have hcq0 := hO.b1.cell
      go_enter Try.func17, Try.ntmps17
      go_wp2_with (first
        | ((with_reducible refine own_loadg0 hO ?_ _ rfl rfl _ Try.underlying26 rfl (peer_size p) ?_); (· first | rfl | (simp [Region.wanted, yielded]; done)))
        | ((with_reducible refine own_loadg1 hO ?_ _ rfl rfl _ Try.underlying30 rfl (by kernel_rfl) ?_); (· first | rfl | (simp [Region.wanted, yielded]; done)))
        | (go_at_call 32; (with_reducible refine (hf _).mono ?_); rintro e w1 ⟨rfl, hb1⟩; replace hO := hO.grow hb1; have hcp1 := fun i => (hO.b0.cell i).trans (peer_cell _ i); have hcq1 := hO.b1.cell)
        | (go_at_call 29; (with_reducible refine (ht _).mono ?_); rintro e w2 ⟨rfl, hb2⟩; replace hO := hO.grow hb2; have hcp2 := fun i => (hO.b0.cell i).trans (peer_cell _ i); have hcq2 := hO.b1.cell)
        | (go_at_call 36; (with_reducible refine (hr _ (hB.below hO.below)).mono ?_); rintro e w5 ⟨rfl, hb5⟩; replace hO := hO.grow hb5; have hcp5 := fun i => (hO.b0.cell i).trans (peer_cell _ i); have hcq5 := hO.b1.cell)
        | (with_reducible refine own_row2 (#[.int .i64 0, .int .i64 0, .int .u32 0, .int .u32 0, .int .u32 0, .int .u32 0, .int .i64 0, .int .u32 0, .int .u32 0, .int .u32 0, .int .u32 0, .int .u32 0, .int .u32 0, .bool false, .int .u32 0, .int .u32 0]) hO rfl _ _ rfl rfl rfl (by kernel_rfl) (by kernel_rfl) (by simp [Value.oneCell', q32, q64]) ?_; intro w41 hO41 hz41 hk41; replace hO := hO41; clear hO41 hz41 hk41))
      exact bodyPost_ret (results_ct Try.results17 _ _ _ _ _ _ rfl rfl hO.b2 Try.underlying26 rfl (by kernel_rfl)) rfl ⟨by rw [peer_none]; rfl, hO.below⟩
  · cases hfb : fits10 p q 3 with
    | false =>
      have e0 : doneE p q = 1 := by simp [doneE, *]
      rw [e0]
      clear e0 he
      obtain ⟨hs1, hs2⟩ := side_ne p hs
      rw [hs1] at ht
      rw [hfb] at hf
      clear hs hfb
      have hO : Own w _ [_, _, _] := Own.start3 w 26 30 26 (peerC p) #[.int .i64 q.kind, .int .i64 q.dir, .int .i64 q.train, q32 q.a, q32 q.b, .slice A n c, q64 q.mac] #[.int .i64 0, .int .i64 0, .int .u32 0, .int .u32 0, .int .u32 0, .int .u32 0, .int .i64 0, .int .u32 0, .int .u32 0, .int .u32 0, .int .u32 0, .int .u32 0, .int .u32 0, .bool false, .int .u32 0, .int .u32 0]
      have hcp0 := fun i => (hO.b0.cell i).trans (peer_cell _ i)
      have hcq0 := hO.b1.cell
      go_enter Try.func17, Try.ntmps17
      go_wp2_with (first
        | ((with_reducible refine own_loadg0 hO ?_ _ rfl rfl _ Try.underlying26 rfl (peer_size p) ?_); (· first | rfl | (simp [Region.wanted, yielded]; done)))
        | ((with_reducible refine own_loadg1 hO ?_ _ rfl rfl _ Try.underlying30 rfl (by kernel_rfl) ?_); (· first | rfl | (simp [Region.wanted, yielded]; done)))
        | (go_at_call 32; (with_reducible refine (hf _).mono ?_); rintro e w1 ⟨rfl, hb1⟩; replace hO := hO.grow hb1; have hcp1 := fun i => (hO.b0.cell i).trans (peer_cell _ i); have hcq1 := hO.b1.cell)
        | (go_at_call 29; (with_reducible refine (ht _).mono ?_); rintro e w2 ⟨rfl, hb2⟩; replace hO := hO.grow hb2; have hcp2 := fun i => (hO.b0.cell i).trans (peer_cell _ i); have hcq2 := hO.b1.cell)
        | (go_at_call 36; (with_reducible refine (hr _ (hB.below hO.below)).mono ?_); rintro e w5 ⟨rfl, hb5⟩; replace hO := hO.grow hb5; have hcp5 := fun i => (hO.b0.cell i).trans (peer_cell _ i); have hcq5 := hO.b1.cell)
        | (with_reducible refine own_row2 (#[.int .i64 0, .int .i64 0, .int .u32 0, .int .u32 0, .int .u32 0, .int .u32 0, .int .i64 0, .int .u32 0, .int .u32 0, .int .u32 0, .int .u32 0, .int .u32 0, .int .u32 0, .bool false, .int .u32 0, .int .u32 0]) hO rfl _ _ rfl rfl rfl (by kernel_rfl) (by kernel_rfl) (by simp [Value.oneCell', q32, q64]) ?_; intro w41 hO41 hz41 hk41; replace hO := hO41; clear hO41 hz41 hk41))
      exact bodyPost_ret (results_ct Try.results17 _ _ _ _ _ _ rfl rfl hO.b2 Try.underlying26 rfl (by kernel_rfl)) rfl ⟨by rw [peer_none]; rfl, hO.below⟩
    | true =>
      cases hx : p.half with
      | false =>
        have e0 : doneE p q = 6 := by simp [doneE, *]
        rw [e0]
        clear e0 he
        obtain ⟨hs1, hs2⟩ := side_ne p hs
        rw [hs1] at ht
        rw [hfb] at hf
        clear hs hfb
        have hO : Own w _ [_, _, _] := Own.start3 w 26 30 26 (peerC p) #[.int .i64 q.kind, .int .i64 q.dir, .int .i64 q.train, q32 q.a, q32 q.b, .slice A n c, q64 q.mac] #[.int .i64 0, .int .i64 0, .int .u32 0, .int .u32 0, .int .u32 0, .int .u32 0, .int .i64 0, .int .u32 0, .int .u32 0, .int .u32 0, .int .u32 0, .int .u32 0, .int .u32 0, .bool false, .int .u32 0, .int .u32 0]
        have hcp0 := fun i => (hO.b0.cell i).trans (peer_cell _ i)
        have hcq0 := hO.b1.cell
        go_enter Try.func17, Try.ntmps17
        go_wp2_with (first
          | ((with_reducible refine own_loadg0 hO ?_ _ rfl rfl _ Try.underlying26 rfl (peer_size p) ?_); (· first | rfl | (simp [Region.wanted, yielded]; done)))
          | ((with_reducible refine own_loadg1 hO ?_ _ rfl rfl _ Try.underlying30 rfl (by kernel_rfl) ?_); (· first | rfl | (simp [Region.wanted, yielded]; done)))
          | (go_at_call 32; (with_reducible refine (hf _).mono ?_); rintro e w1 ⟨rfl, hb1⟩; replace hO := hO.grow hb1; have hcp1 := fun i => (hO.b0.cell i).trans (peer_cell _ i); have hcq1 := hO.b1.cell)
          | (go_at_call 29; (with_reducible refine (ht _).mono ?_); rintro e w2 ⟨rfl, hb2⟩; replace hO := hO.grow hb2; have hcp2 := fun i => (hO.b0.cell i).trans (peer_cell _ i); have hcq2 := hO.b1.cell)
          | (go_at_call 36; (with_reducible refine (hr _ (hB.below hO.below)).mono ?_); rintro e w5 ⟨rfl, hb5⟩; replace hO := hO.grow hb5; have hcp5 := fun i => (hO.b0.cell i).trans (peer_cell _ i); have hcq5 := hO.b1.cell)
          | (with_reducible refine own_row2 (#[.int .i64 0, .int .i64 0, .int .u32 0, .int .u32 0, .int .u32 0, .int .u32 0, .int .i64 0, .int .u32 0, .int .u32 0, .int .u32 0, .int .u32 0, .int .u32 0, .int .u32 0, .bool false, .int .u32 0, .int .u32 0]) hO rfl _ _ rfl rfl rfl (by kernel_rfl) (by kernel_rfl) (by simp [Value.oneCell', q32, q64]) ?_; intro w41 hO41 hz41 hk41; replace hO := hO41; clear hO41 hz41 hk41))
        exact bodyPost_ret (results_ct Try.results17 _ _ _ _ _ _ rfl rfl hO.b2 Try.underlying26 rfl (by kernel_rfl)) rfl ⟨by rw [peer_none]; rfl, hO.below⟩
      | true =>
        by_cases hy : q.a = p.a2
        · by_cases hz : q.b = p.b2
          · cases hrb : right7 p.base q with
            | true => exact absurd (by simp [doneE, *]) he
            | false =>
              have e0 : doneE p q = 90 := by simp [doneE, *]
              rw [e0]
              clear e0 he
              obtain ⟨hs1, hs2⟩ := side_ne p hs
              rw [hs1] at ht
              rw [hfb] at hf
              rw [hrb] at hr
              have hy1 : (q.a != p.a2) = false := by simp [hy]
              have hz1 : (q.b != p.b2) = false := by simp [hz]
              clear hs hfb hy hz hrb
              have hO : Own w _ [_, _, _] := Own.start3 w 26 30 26 (peerC p) #[.int .i64 q.kind, .int .i64 q.dir, .int .i64 q.train, q32 q.a, q32 q.b, .slice A n c, q64 q.mac] #[.int .i64 0, .int .i64 0, .int .u32 0, .int .u32 0, .int .u32 0, .int .u32 0, .int .i64 0, .int .u32 0, .int .u32 0, .int .u32 0, .int .u32 0, .int .u32 0, .int .u32 0, .bool false, .int .u32 0, .int .u32 0]
              have hcp0 := fun i => (hO.b0.cell i).trans (peer_cell _ i)
              have hcq0 := hO.b1.cell
              go_enter Try.func17, Try.ntmps17
              go_wp2_with (first
                | ((with_reducible refine own_loadg0 hO ?_ _ rfl rfl _ Try.underlying26 rfl (peer_size p) ?_); (· first | rfl | (simp [Region.wanted, yielded]; done)))
                | ((with_reducible refine own_loadg1 hO ?_ _ rfl rfl _ Try.underlying30 rfl (by kernel_rfl) ?_); (· first | rfl | (simp [Region.wanted, yielded]; done)))
                | (go_at_call 32; (with_reducible refine (hf _).mono ?_); rintro e w1 ⟨rfl, hb1⟩; replace hO := hO.grow hb1; have hcp1 := fun i => (hO.b0.cell i).trans (peer_cell _ i); have hcq1 := hO.b1.cell)
                | (go_at_call 29; (with_reducible refine (ht _).mono ?_); rintro e w2 ⟨rfl, hb2⟩; replace hO := hO.grow hb2; have hcp2 := fun i => (hO.b0.cell i).trans (peer_cell _ i); have hcq2 := hO.b1.cell)
                | (go_at_call 36; (with_reducible refine (hr _ (hB.below hO.below)).mono ?_); rintro e w5 ⟨rfl, hb5⟩; replace hO := hO.grow hb5; have hcp5 := fun i => (hO.b0.cell i).trans (peer_cell _ i); have hcq5 := hO.b1.cell)
                | (with_reducible refine own_row2 (#[.int .i64 0, .int .i64 0, .int .u32 0, .int .u32 0, .int .u32 0, .int .u32 0, .int .i64 0, .int .u32 0, .int .u32 0, .int .u32 0, .int .u32 0, .int .u32 0, .int .u32 0, .bool false, .int .u32 0, .int .u32 0]) hO rfl _ _ rfl rfl rfl (by kernel_rfl) (by kernel_rfl) (by simp [Value.oneCell', q32, q64]) ?_; intro w41 hO41 hz41 hk41; replace hO := hO41; clear hO41 hz41 hk41))
              exact bodyPost_ret (results_ct Try.results17 _ _ _ _ _ _ rfl rfl hO.b2 Try.underlying26 rfl (by kernel_rfl)) rfl ⟨by rw [peer_none]; rfl, hO.below⟩
          · have e0 : doneE p q = 110 := by simp [doneE, *]
            rw [e0]
            clear e0 he
            obtain ⟨hs1, hs2⟩ := side_ne p hs
            rw [hs1] at ht
            rw [hfb] at hf
            have hy1 : (q.a != p.a2) = false := by simp [hy]
            have hz1 : (q.b != p.b2) = true := by simp [hz]
            clear hs hfb hy hz
            have hO : Own w _ [_, _, _] := Own.start3 w 26 30 26 (peerC p) #[.int .i64 q.kind, .int .i64 q.dir, .int .i64 q.train, q32 q.a, q32 q.b, .slice A n c, q64 q.mac] #[.int .i64 0, .int .i64 0, .int .u32 0, .int .u32 0, .int .u32 0, .int .u32 0, .int .i64 0, .int .u32 0, .int .u32 0, .int .u32 0, .int .u32 0, .int .u32 0, .int .u32 0, .bool false, .int .u32 0, .int .u32 0]
            have hcp0 := fun i => (hO.b0.cell i).trans (peer_cell _ i)
            have hcq0 := hO.b1.cell
            go_enter Try.func17, Try.ntmps17
            go_wp2_with (first
              | ((with_reducible refine own_loadg0 hO ?_ _ rfl rfl _ Try.underlying26 rfl (peer_size p) ?_); (· first | rfl | (simp [Region.wanted, yielded]; done)))
              | ((with_reducible refine own_loadg1 hO ?_ _ rfl rfl _ Try.underlying30 rfl (by kernel_rfl) ?_); (· first | rfl | (simp [Region.wanted, yielded]; done)))
              | (go_at_call 32; (with_reducible refine (hf _).mono ?_); rintro e w1 ⟨rfl, hb1⟩; replace hO := hO.grow hb1; have hcp1 := fun i => (hO.b0.cell i).trans (peer_cell _ i); have hcq1 := hO.b1.cell)
              | (go_at_call 29; (with_reducible refine (ht _).mono ?_); rintro e w2 ⟨rfl, hb2⟩; replace hO := hO.grow hb2; have hcp2 := fun i => (hO.b0.cell i).trans (peer_cell _ i); have hcq2 := hO.b1.cell)
              | (go_at_call 36; (with_reducible refine (hr _ (hB.below hO.below)).mono ?_); rintro e w5 ⟨rfl, hb5⟩; replace hO := hO.grow hb5; have hcp5 := fun i => (hO.b0.cell i).trans (peer_cell _ i); have hcq5 := hO.b1.cell)
              | (with_reducible refine own_row2 (#[.int .i64 0, .int .i64 0, .int .u32 0, .int .u32 0, .int .u32 0, .int .u32 0, .int .i64 0, .int .u32 0, .int .u32 0, .int .u32 0, .int .u32 0, .int .u32 0, .int .u32 0, .bool false, .int .u32 0, .int .u32 0]) hO rfl _ _ rfl rfl rfl (by kernel_rfl) (by kernel_rfl) (by simp [Value.oneCell', q32, q64]) ?_; intro w41 hO41 hz41 hk41; replace hO := hO41; clear hO41 hz41 hk41))
            exact bodyPost_ret (results_ct Try.results17 _ _ _ _ _ _ rfl rfl hO.b2 Try.underlying26 rfl (by kernel_rfl)) rfl ⟨by rw [peer_none]; rfl, hO.below⟩
        · have e0 : doneE p q = 110 := by simp [doneE, *]
          rw [e0]
          clear e0 he
          obtain ⟨hs1, hs2⟩ := side_ne p hs
          rw [hs1] at ht
          rw [hfb] at hf
          have hy1 : (q.a != p.a2) = true := by simp [hy]
          clear hs hfb hy
          have hO : Own w _ [_, _, _] := Own.start3 w 26 30 26 (peerC p) #[.int .i64 q.kind, .int .i64 q.dir, .int .i64 q.train, q32 q.a, q32 q.b, .slice A n c, q64 q.mac] #[.int .i64 0, .int .i64 0, .int .u32 0, .int .u32 0, .int .u32 0, .int .u32 0, .int .i64 0, .int .u32 0, .int .u32 0, .int .u32 0, .int .u32 0, .int .u32 0, .int .u32 0, .bool false, .int .u32 0, .int .u32 0]
          have hcp0 := fun i => (hO.b0.cell i).trans (peer_cell _ i)
          have hcq0 := hO.b1.cell
          go_enter Try.func17, Try.ntmps17
          go_wp2_with (first
            | ((with_reducible refine own_loadg0 hO ?_ _ rfl rfl _ Try.underlying26 rfl (peer_size p) ?_); (· first | rfl | (simp [Region.wanted, yielded]; done)))
            | ((with_reducible refine own_loadg1 hO ?_ _ rfl rfl _ Try.underlying30 rfl (by kernel_rfl) ?_); (· first | rfl | (simp [Region.wanted, yielded]; done)))
            | (go_at_call 32; (with_reducible refine (hf _).mono ?_); rintro e w1 ⟨rfl, hb1⟩; replace hO := hO.grow hb1; have hcp1 := fun i => (hO.b0.cell i).trans (peer_cell _ i); have hcq1 := hO.b1.cell)
            | (go_at_call 29; (with_reducible refine (ht _).mono ?_); rintro e w2 ⟨rfl, hb2⟩; replace hO := hO.grow hb2; have hcp2 := fun i => (hO.b0.cell i).trans (peer_cell _ i); have hcq2 := hO.b1.cell)
            | (go_at_call 36; (with_reducible refine (hr _ (hB.below hO.below)).mono ?_); rintro e w5 ⟨rfl, hb5⟩; replace hO := hO.grow hb5; have hcp5 := fun i => (hO.b0.cell i).trans (peer_cell _ i); have hcq5 := hO.b1.cell)
            | (with_reducible refine own_row2 (#[.int .i64 0, .int .i64 0, .int .u32 0, .int .u32 0, .int .u32 0, .int .u32 0, .int .i64 0, .int .u32 0, .int .u32 0, .int .u32 0, .int .u32 0, .int .u32 0, .int .u32 0, .bool false, .int .u32 0, .int .u32 0]) hO rfl _ _ rfl rfl rfl (by kernel_rfl) (by kernel_rfl) (by simp [Value.oneCell', q32, q64]) ?_; intro w41 hO41 hz41 hk41; replace hO := hO41; clear hO41 hz41 hk41))
          exact bodyPost_ret (results_ct Try.results17 _ _ _ _ _ _ rfl rfl hO.b2 Try.underlying26 rfl (by kernel_rfl)) rfl ⟨by rw [peer_none]; rfl, hO.below⟩
set_option maxHeartbeats 8000000 in
theorem shdone_yes (p : Peer10) (q : P7) (A : Option Addr) (n c : Nat) (w : World) (hn : q.body.length = n) (hB : Bytes w A c q.body) (hlen : q.body.length ≤ 2000) (hs : ¬ p.side = 0) (hfb : fits10 p q 3 = true) (hx : p.half = true) (hy : q.a = p.a2) (hz : q.b = p.b2) (hrb : right7 p.base q = true) : Calls Try.prog 17 #[.agg (peerC p), .agg #[.int .i64 q.kind, .int .i64 q.dir, .int .i64 q.train, q32 q.a, q32 q.b, .slice A n c, q64 q.mac]] w (RetP10 w (setB2 (setA2 (setHalf (up10 p q.a q.b) false) 0) 0) 0) := by
  have hf := fun W => shfits_k p q 3 A n c W hn hlen
  have hr := fun W (h : Bytes W A c q.body) => pright_k p.base q A n c W hn.symm h hlen
  have ht := fun W => shtrain_k p W
  obtain ⟨hs1, hs2⟩ := side_ne p hs
  rw [hs1] at ht
  rw [hfb] at hf
  rw [hrb] at hr
  have hy1 : (q.a != p.a2) = false := by simp [hy]
  have hz1 : (q.b != p.b2) = false := by simp [hz]
  clear hs hfb hy hz hrb
  have hO : Own w _ [_, _, _] := Own.start3 w 26 30 26 (peerC p) #[.int .i64 q.kind, .int .i64 q.dir, .int .i64 q.train, q32 q.a, q32 q.b, .slice A n c, q64 q.mac] #[.int .i64 0, .int .i64 0, .int .u32 0, .int .u32 0, .int .u32 0, .int .u32 0, .int .i64 0, .int .u32 0, .int .u32 0, .int .u32 0, .int .u32 0, .int .u32 0, .int .u32 0, .bool false, .int .u32 0, .int .u32 0]
  have hcp0 := fun i => (hO.b0.cell i).trans (peer_cell _ i)
  have hcq0 := hO.b1.cell
  go_enter Try.func17, Try.ntmps17
  go_wp2_with (first
    | ((with_reducible refine own_loadg0 hO ?_ _ rfl rfl _ Try.underlying26 rfl (peer_size p) ?_); (· first | rfl | (simp [Region.wanted, yielded]; done)))
    | ((with_reducible refine own_loadg1 hO ?_ _ rfl rfl _ Try.underlying30 rfl (by kernel_rfl) ?_); (· first | rfl | (simp [Region.wanted, yielded]; done)))
    | (go_at_call 32; (with_reducible refine (hf _).mono ?_); rintro e w1 ⟨rfl, hb1⟩; replace hO := hO.grow hb1; have hcp1 := fun i => (hO.b0.cell i).trans (peer_cell _ i); have hcq1 := hO.b1.cell)
    | (go_at_call 29; (with_reducible refine (ht _).mono ?_); rintro e w2 ⟨rfl, hb2⟩; replace hO := hO.grow hb2; have hcp2 := fun i => (hO.b0.cell i).trans (peer_cell _ i); have hcq2 := hO.b1.cell)
    | (go_at_call 36; (with_reducible refine (hr _ (hB.below hO.below)).mono ?_); rintro e w5 ⟨rfl, hb5⟩; replace hO := hO.grow hb5; have hcp5 := fun i => (hO.b0.cell i).trans (peer_cell _ i); have hcq5 := hO.b1.cell)
    | (go_at_call 37; (with_reducible refine (shup_k p q.a q.b _).mono ?_); rintro e w6 ⟨rfl, hb6⟩; replace hO := hO.grow hb6; have hcp6 := fun i => (hO.b0.cell i).trans (peer_cell _ i); have hcq6 := hO.b1.cell)
    | (with_reducible refine own_row0 (peerC (up10 p q.a q.b)) hO rfl _ _ rfl rfl rfl (by kernel_rfl) (by kernel_rfl) (peer_cells (up10 p q.a q.b)) ?_; intro w7 hO7 hz7 hk7; replace hO := hO7; clear hO7 hz7 hk7)
    | (with_reducible refine own_row2 (peerC (setB2 (setA2 (setHalf (up10 p q.a q.b) false) 0) 0)) hO rfl _ _ rfl rfl rfl (by kernel_rfl) (by kernel_rfl) (peer_cells (setB2 (setA2 (setHalf (up10 p q.a q.b) false) 0) 0)) ?_; intro w8 hO8 hz8 hk8; replace hO := hO8; clear hO8 hz8 hk8)
    | (with_reducible refine own_cell0 13 (.bool false) hO rfl _ _ _ rfl rfl rfl (by kernel_rfl) (by simp [peerC]) rfl ?_; intro w31 hO31 hz31 hk31; replace hO := hO31; clear hO31 hz31 hk31; rw [peer_set13] at hO)
    | (with_reducible refine own_cell0 14 (.int .u32 0) hO rfl _ _ _ rfl rfl rfl (by kernel_rfl) (by simp [peerC]) rfl ?_; intro w32 hO32 hz32 hk32; replace hO := hO32; clear hO32 hz32 hk32; rw [peer_set14z] at hO)
    | (with_reducible refine own_cell0 15 (.int .u32 0) hO rfl _ _ _ rfl rfl rfl (by kernel_rfl) (by simp [peerC]) rfl ?_; intro w33 hO33 hz33 hk33; replace hO := hO33; clear hO33 hz33 hk33; rw [peer_set15z] at hO)
    | ((with_reducible refine own_loadg0 hO ?_ _ rfl rfl _ Try.underlying26 rfl (peer_size (setB2 (setA2 (setHalf (up10 p q.a q.b) false) 0) 0)) ?_); (· first | rfl | (simp [Region.wanted, yielded]; done))))
  exact bodyPost_ret (results_ct Try.results17 _ _ _ _ _ _ rfl rfl hO.b2 Try.underlying26 rfl (peer_size _)) rfl ⟨rfl, hO.below⟩
theorem shdone_k (p : Peer10) (q : P7) (A : Option Addr) (n c : Nat) (w : World) (hn : q.body.length = n) (hB : Bytes w A c q.body) (hlen : q.body.length ≤ 2000) : Calls Try.prog 17 #[.agg (peerC p), .agg #[.int .i64 q.kind, .int .i64 q.dir, .int .i64 q.train, q32 q.a, q32 q.b, .slice A n c, q64 q.mac]] w (RetP10 w (doneP p q) (doneE p q)) := by
  by_cases h : doneE p q = 0
  · unfold doneP
    rw [h, if_pos rfl]
    have hs : ¬ p.side = 0 := by
      intro a
      simp [doneE, a] at h
    have hfb : fits10 p q 3 = true := by
      cases a : fits10 p q 3
      · simp [doneE, a] at h
      · rfl
    have hx : p.half = true := by
      cases a : p.half
      · simp [doneE, a, hs, hfb] at h
      · rfl
    have hy : q.a = p.a2 := by
      by_cases a : q.a = p.a2
      · exact a
      · simp [doneE, a, hs, hfb, hx] at h
    have hz : q.b = p.b2 := by
      by_cases a : q.b = p.b2
      · exact a
      · simp [doneE, a, hs, hfb, hx] at h
    have hrb : right7 p.base q = true := by
      cases a : right7 p.base q
      · simp [doneE, a, hs, hfb, hx, hy, hz] at h
      · rfl
    have := shdone_yes p q A n c w hn hB hlen hs hfb hx hy hz hrb
    have e : (setB2 (setA2 (setHalf (up10 p q.a q.b) false) 0) 0) = ⟨p.side, p.train, p.base, 2, q.a, q.b, Derive p.base q.a q.b, false, 0, 0⟩ := by simp only [setB2, setA2, setHalf, setKey, setB, setA, setState, up10]
    rw [e] at this
    exact this
  · unfold doneP
    rw [if_neg h]
    exact shdone_err p q A n c w hn hB hlen h
end Go.Proofs.Ytnngknmmokajgaa
