/- Done: the document's. -/
import Derived.Test.YtnngknmmokajgaaShakeSets
set_option linter.unusedSimpArgs false
set_option linter.unusedVariables false
namespace Go.Proofs.Ytnngknmmokajgaa
open Go.RowKit Go.Shelf

set_option maxHeartbeats 8000000 in
theorem rshdone_err (p : Peer10) (q : P7) (A : Option Addr) (n c : Nat) (w : World) (hn : q.body.length = n) (hB : Bytes w A c q.body) (hlen : q.body.length ≤ 2000) (he : doneE p q ≠ 0) : Calls Try.prog 18 #[.agg (peerC p), .agg #[.int .i64 q.kind, .int .i64 q.dir, .int .i64 q.train, q32 q.a, q32 q.b, .slice A n c, q64 q.mac]] w (RetP10 w Peer10.none_ (doneE p q)) := by
  have hf := fun W => rshfits_k p q 3 A n c W hn hlen
  have hr := fun W (h : Bytes W A c q.body) => prright_k p.base q A n c W hn.symm h hlen
  by_cases hs : p.side = 0
  · have e0 : doneE p q = 1 := by unfold doneE; rw [if_pos (.inl hs)]
    rw [e0]
    clear e0 he
    obtain ⟨hs1, hs2⟩ := side_eq p hs
    generalize fits10 p q 3 = fb at *
    clear hs
    cases fb with
    | true =>
      have hO : Own w _ [_, _, _] := Own.start3 w 26 30 26 (peerC p) #[.int .i64 q.kind, .int .i64 q.dir, .int .i64 q.train, q32 q.a, q32 q.b, .slice A n c, q64 q.mac] #[.int .i64 0, .int .i64 0, .int .u32 0, .int .u32 0, .int .u32 0, .int .u32 0, .int .i64 0, .int .u32 0, .int .u32 0, .int .u32 0, .int .u32 0, .int .u32 0, .int .u32 0, .bool false, .int .u32 0, .int .u32 0]
      have hcp0 := fun i => (hO.b0.cell i).trans (peer_cell _ i)
      have hcq0 := hO.b1.cell
      go_enter Try.func18, Try.ntmps18
      go_wp2_with (first
        | ((with_reducible refine own_loadg0 hO ?_ _ rfl rfl _ Try.underlying26 rfl (peer_size p) ?_); (· first | rfl | (simp [Region.wanted, yielded]; done)))
        | ((with_reducible refine own_loadg1 hO ?_ _ rfl rfl _ Try.underlying30 rfl (by kernel_rfl) ?_); (· first | rfl | (simp [Region.wanted, yielded]; done)))
        | (go_at_call 34; (with_reducible refine (hf _).mono ?_); rintro e w1 ⟨rfl, hb1⟩; replace hO := hO.grow hb1; have hcp1 := fun i => (hO.b0.cell i).trans (peer_cell _ i); have hcq1 := hO.b1.cell)
        | (go_at_call 38; (with_reducible refine (hr _ (hB.below hO.below)).mono ?_); rintro e w5 ⟨rfl, hb5⟩; replace hO := hO.grow hb5; have hcp5 := fun i => (hO.b0.cell i).trans (peer_cell _ i); have hcq5 := hO.b1.cell)
        | (with_reducible refine own_row2 (#[.int .i64 0, .int .i64 0, .int .u32 0, .int .u32 0, .int .u32 0, .int .u32 0, .int .i64 0, .int .u32 0, .int .u32 0, .int .u32 0, .int .u32 0, .int .u32 0, .int .u32 0, .bool false, .int .u32 0, .int .u32 0]) hO rfl _ _ rfl rfl rfl (by kernel_rfl) (by kernel_rfl) (by simp [Value.oneCell', q32, q64]) ?_; intro w41 hO41 hz41 hk41; replace hO := hO41; clear hO41 hz41 hk41))
      exact bodyPost_ret (results_ct Try.results18 _ _ _ _ _ _ rfl rfl hO.b2 Try.underlying26 rfl (by kernel_rfl)) rfl ⟨by rw [peer_none]; rfl, hO.below⟩
    | false =>
      have hO : Own w _ [_, _, _] := Own.start3 w 26 30 26 (peerC p) #[.int .i64 q.kind, .int .i64 q.dir, .int .i64 q.train, q32 q.a, q32 q.b, .slice A n c, q64 q.mac] #[.int .i64 0, .int .i64 0, .int .u32 0, .int .u32 0, .int .u32 0, .int .u32 0, .int .i64 0, .int .u32 0, .int .u32 0, .int .u32 0, .int .u32 0, .int .u32 0, .int .u32 0, .bool false, .int .u32 0, .int .u32 0]
      have hcp0 := fun i => (hO.b0.cell i).trans (peer_cell _ i)
      have hcq0 := hO.b1.cell
      go_enter Try.func18, Try.ntmps18
      go_wp2_with (first
        | ((with_reducible refine own_loadg0 hO ?_ _ rfl rfl _ Try.underlying26 rfl (peer_size p) ?_); (· first | rfl | (simp [Region.wanted, yielded]; done)))
        | ((with_reducible refine own_loadg1 hO ?_ _ rfl rfl _ Try.underlying30 rfl (by kernel_rfl) ?_); (· first | rfl | (simp [Region.wanted, yielded]; done)))
        | (go_at_call 34; (with_reducible refine (hf _).mono ?_); rintro e w1 ⟨rfl, hb1⟩; replace hO := hO.grow hb1; have hcp1 := fun i => (hO.b0.cell i).trans (peer_cell _ i); have hcq1 := hO.b1.cell)
        | (go_at_call 38; (with_reducible refine (hr _ (hB.below hO.below)).mono ?_); rintro e w5 ⟨rfl, hb5⟩; replace hO := hO.grow hb5; have hcp5 := fun i => (hO.b0.cell i).trans (peer_cell _ i); have hcq5 := hO.b1.cell)
        | (with_reducible refine own_row2 (#[.int .i64 0, .int .i64 0, .int .u32 0, .int .u32 0, .int .u32 0, .int .u32 0, .int .i64 0, .int .u32 0, .int .u32 0, .int .u32 0, .int .u32 0, .int .u32 0, .int .u32 0, .bool false, .int .u32 0, .int .u32 0]) hO rfl _ _ rfl rfl rfl (by kernel_rfl) (by kernel_rfl) (by simp [Value.oneCell', q32, q64]) ?_; intro w41 hO41 hz41 hk41; replace hO := hO41; clear hO41 hz41 hk41))
      exact bodyPost_ret (results_ct Try.results18 _ _ _ _ _ _ rfl rfl hO.b2 Try.underlying26 rfl (by kernel_rfl)) rfl ⟨by rw [peer_none]; rfl, hO.below⟩
  · cases hfb : fits10 p q 3 with
    | false =>
      have e0 : doneE p q = 1 := by simp [doneE, *]
      rw [e0]
      clear e0 he
      obtain ⟨hs1, hs2⟩ := side_ne p hs
      rw [hfb] at hf
      clear hs hfb
      have hO : Own w _ [_, _, _] := Own.start3 w 26 30 26 (peerC p) #[.int .i64 q.kind, .int .i64 q.dir, .int .i64 q.train, q32 q.a, q32 q.b, .slice A n c, q64 q.mac] #[.int .i64 0, .int .i64 0, .int .u32 0, .int .u32 0, .int .u32 0, .int .u32 0, .int .i64 0, .int .u32 0, .int .u32 0, .int .u32 0, .int .u32 0, .int .u32 0, .int .u32 0, .bool false, .int .u32 0, .int .u32 0]
      have hcp0 := fun i => (hO.b0.cell i).trans (peer_cell _ i)
      have hcq0 := hO.b1.cell
      go_enter Try.func18, Try.ntmps18
      go_wp2_with (first
        | ((with_reducible refine own_loadg0 hO ?_ _ rfl rfl _ Try.underlying26 rfl (peer_size p) ?_); (· first | rfl | (simp [Region.wanted, yielded]; done)))
        | ((with_reducible refine own_loadg1 hO ?_ _ rfl rfl _ Try.underlying30 rfl (by kernel_rfl) ?_); (· first | rfl | (simp [Region.wanted, yielded]; done)))
        | (go_at_call 34; (with_reducible refine (hf _).mono ?_); rintro e w1 ⟨rfl, hb1⟩; replace hO := hO.grow hb1; have hcp1 := fun i => (hO.b0.cell i).trans (peer_cell _ i); have hcq1 := hO.b1.cell)
        | (go_at_call 38; (with_reducible refine (hr _ (hB.below hO.below)).mono ?_); rintro e w5 ⟨rfl, hb5⟩; replace hO := hO.grow hb5; have hcp5 := fun i => (hO.b0.cell i).trans (peer_cell _ i); have hcq5 := hO.b1.cell)
        | (with_reducible refine own_row2 (#[.int .i64 0, .int .i64 0, .int .u32 0, .int .u32 0, .int .u32 0, .int .u32 0, .int .i64 0, .int .u32 0, .int .u32 0, .int .u32 0, .int .u32 0, .int .u32 0, .int .u32 0, .bool false, .int .u32 0, .int .u32 0]) hO rfl _ _ rfl rfl rfl (by kernel_rfl) (by kernel_rfl) (by simp [Value.oneCell', q32, q64]) ?_; intro w41 hO41 hz41 hk41; replace hO := hO41; clear hO41 hz41 hk41))
      exact bodyPost_ret (results_ct Try.results18 _ _ _ _ _ _ rfl rfl hO.b2 Try.underlying26 rfl (by kernel_rfl)) rfl ⟨by rw [peer_none]; rfl, hO.below⟩
    | true =>
      cases hx : p.half with
      | false =>
        have e0 : doneE p q = 6 := by simp [doneE, *]
        rw [e0]
        clear e0 he
        obtain ⟨hs1, hs2⟩ := side_ne p hs
        rw [hfb] at hf
        clear hs hfb
        have hO : Own w _ [_, _, _] := Own.start3 w 26 30 26 (peerC p) #[.int .i64 q.kind, .int .i64 q.dir, .int .i64 q.train, q32 q.a, q32 q.b, .slice A n c, q64 q.mac] #[.int .i64 0, .int .i64 0, .int .u32 0, .int .u32 0, .int .u32 0, .int .u32 0, .int .i64 0, .int .u32 0, .int .u32 0, .int .u32 0, .int .u32 0, .int .u32 0, .int .u32 0, .bool false, .int .u32 0, .int .u32 0]
        have hcp0 := fun i => (hO.b0.cell i).trans (peer_cell _ i)
        have hcq0 := hO.b1.cell
        go_enter Try.func18, Try.ntmps18
        go_wp2_with (first
          | ((with_reducible refine own_loadg0 hO ?_ _ rfl rfl _ Try.underlying26 rfl (peer_size p) ?_); (· first | rfl | (simp [Region.wanted, yielded]; done)))
          | ((with_reducible refine own_loadg1 hO ?_ _ rfl rfl _ Try.underlying30 rfl (by kernel_rfl) ?_); (· first | rfl | (simp [Region.wanted, yielded]; done)))
          | (go_at_call 34; (with_reducible refine (hf _).mono ?_); rintro e w1 ⟨rfl, hb1⟩; replace hO := hO.grow hb1; have hcp1 := fun i => (hO.b0.cell i).trans (peer_cell _ i); have hcq1 := hO.b1.cell)
          | (go_at_call 38; (with_reducible refine (hr _ (hB.below hO.below)).mono ?_); rintro e w5 ⟨rfl, hb5⟩; replace hO := hO.grow hb5; have hcp5 := fun i => (hO.b0.cell i).trans (peer_cell _ i); have hcq5 := hO.b1.cell)
          | (with_reducible refine own_row2 (#[.int .i64 0, .int .i64 0, .int .u32 0, .int .u32 0, .int .u32 0, .int .u32 0, .int .i64 0, .int .u32 0, .int .u32 0, .int .u32 0, .int .u32 0, .int .u32 0, .int .u32 0, .bool false, .int .u32 0, .int .u32 0]) hO rfl _ _ rfl rfl rfl (by kernel_rfl) (by kernel_rfl) (by simp [Value.oneCell', q32, q64]) ?_; intro w41 hO41 hz41 hk41; replace hO := hO41; clear hO41 hz41 hk41))
        exact bodyPost_ret (results_ct Try.results18 _ _ _ _ _ _ rfl rfl hO.b2 Try.underlying26 rfl (by kernel_rfl)) rfl ⟨by rw [peer_none]; rfl, hO.below⟩
      | true =>
        by_cases hy : q.a = p.a2
        · by_cases hz : q.b = p.b2
          · cases hrb : right7 p.base q with
            | true => exact absurd (by simp [doneE, *]) he
            | false =>
              have e0 : doneE p q = 90 := by simp [doneE, *]
              rw [e0]
              clear e0 he
              obtain ⟨hs1, hs2⟩ := side_ne p hs
              rw [hfb] at hf
              rw [hrb] at hr
              have hy1 : (q.a != p.a2) = false := by simp [hy]
              have hz1 : (q.b != p.b2) = false := by simp [hz]
              clear hs hfb hy hz hrb
              have hO : Own w _ [_, _, _] := Own.start3 w 26 30 26 (peerC p) #[.int .i64 q.kind, .int .i64 q.dir, .int .i64 q.train, q32 q.a, q32 q.b, .slice A n c, q64 q.mac] #[.int .i64 0, .int .i64 0, .int .u32 0, .int .u32 0, .int .u32 0, .int .u32 0, .int .i64 0, .int .u32 0, .int .u32 0, .int .u32 0, .int .u32 0, .int .u32 0, .int .u32 0, .bool false, .int .u32 0, .int .u32 0]
              have hcp0 := fun i => (hO.b0.cell i).trans (peer_cell _ i)
              have hcq0 := hO.b1.cell
              go_enter Try.func18, Try.ntmps18
              go_wp2_with (first
                | ((with_reducible refine own_loadg0 hO ?_ _ rfl rfl _ Try.underlying26 rfl (peer_size p) ?_); (· first | rfl | (simp [Region.wanted, yielded]; done)))
                | ((with_reducible refine own_loadg1 hO ?_ _ rfl rfl _ Try.underlying30 rfl (by kernel_rfl) ?_); (· first | rfl | (simp [Region.wanted, yielded]; done)))
                | (go_at_call 34; (with_reducible refine (hf _).mono ?_); rintro e w1 ⟨rfl, hb1⟩; replace hO := hO.grow hb1; have hcp1 := fun i => (hO.b0.cell i).trans (peer_cell _ i); have hcq1 := hO.b1.cell)
                | (go_at_call 38; (with_reducible refine (hr _ (hB.below hO.below)).mono ?_); rintro e w5 ⟨rfl, hb5⟩; replace hO := hO.grow hb5; have hcp5 := fun i => (hO.b0.cell i).trans (peer_cell _ i); have hcq5 := hO.b1.cell)
                | (with_reducible refine own_row2 (#[.int .i64 0, .int .i64 0, .int .u32 0, .int .u32 0, .int .u32 0, .int .u32 0, .int .i64 0, .int .u32 0, .int .u32 0, .int .u32 0, .int .u32 0, .int .u32 0, .int .u32 0, .bool false, .int .u32 0, .int .u32 0]) hO rfl _ _ rfl rfl rfl (by kernel_rfl) (by kernel_rfl) (by simp [Value.oneCell', q32, q64]) ?_; intro w41 hO41 hz41 hk41; replace hO := hO41; clear hO41 hz41 hk41))
              exact bodyPost_ret (results_ct Try.results18 _ _ _ _ _ _ rfl rfl hO.b2 Try.underlying26 rfl (by kernel_rfl)) rfl ⟨by rw [peer_none]; rfl, hO.below⟩
          · have e0 : doneE p q = 110 := by simp [doneE, *]
            rw [e0]
            clear e0 he
            obtain ⟨hs1, hs2⟩ := side_ne p hs
            rw [hfb] at hf
            have hy1 : (q.a != p.a2) = false := by simp [hy]
            have hz1 : (q.b != p.b2) = true := by simp [hz]
            clear hs hfb hy hz
            have hO : Own w _ [_, _, _] := Own.start3 w 26 30 26 (peerC p) #[.int .i64 q.kind, .int .i64 q.dir, .int .i64 q.train, q32 q.a, q32 q.b, .slice A n c, q64 q.mac] #[.int .i64 0, .int .i64 0, .int .u32 0, .int .u32 0, .int .u32 0, .int .u32 0, .int .i64 0, .int .u32 0, .int .u32 0, .int .u32 0, .int .u32 0, .int .u32 0, .int .u32 0, .bool false, .int .u32 0, .int .u32 0]
            have hcp0 := fun i => (hO.b0.cell i).trans (peer_cell _ i)
            have hcq0 := hO.b1.cell
            go_enter Try.func18, Try.ntmps18
            go_wp2_with (first
              | ((with_reducible refine own_loadg0 hO ?_ _ rfl rfl _ Try.underlying26 rfl (peer_size p) ?_); (· first | rfl | (simp [Region.wanted, yielded]; done)))
              | ((with_reducible refine own_loadg1 hO ?_ _ rfl rfl _ Try.underlying30 rfl (by kernel_rfl) ?_); (· first | rfl | (simp [Region.wanted, yielded]; done)))
              | (go_at_call 34; (with_reducible refine (hf _).mono ?_); rintro e w1 ⟨rfl, hb1⟩; replace hO := hO.grow hb1; have hcp1 := fun i => (hO.b0.cell i).trans (peer_cell _ i); have hcq1 := hO.b1.cell)
              | (go_at_call 38; (with_reducible refine (hr _ (hB.below hO.below)).mono ?_); rintro e w5 ⟨rfl, hb5⟩; replace hO := hO.grow hb5; have hcp5 := fun i => (hO.b0.cell i).trans (peer_cell _ i); have hcq5 := hO.b1.cell)
              | (with_reducible refine own_row2 (#[.int .i64 0, .int .i64 0, .int .u32 0, .int .u32 0, .int .u32 0, .int .u32 0, .int .i64 0, .int .u32 0, .int .u32 0, .int .u32 0, .int .u32 0, .int .u32 0, .int .u32 0, .bool false, .int .u32 0, .int .u32 0]) hO rfl _ _ rfl rfl rfl (by kernel_rfl) (by kernel_rfl) (by simp [Value.oneCell', q32, q64]) ?_; intro w41 hO41 hz41 hk41; replace hO := hO41; clear hO41 hz41 hk41))
            exact bodyPost_ret (results_ct Try.results18 _ _ _ _ _ _ rfl rfl hO.b2 Try.underlying26 rfl (by kernel_rfl)) rfl ⟨by rw [peer_none]; rfl, hO.below⟩
        · have e0 : doneE p q = 110 := by simp [doneE, *]
          rw [e0]
          clear e0 he
          obtain ⟨hs1, hs2⟩ := side_ne p hs
          rw [hfb] at hf
          have hy1 : (q.a != p.a2) = true := by simp [hy]
          clear hs hfb hy
          have hO : Own w _ [_, _, _] := Own.start3 w 26 30 26 (peerC p) #[.int .i64 q.kind, .int .i64 q.dir, .int .i64 q.train, q32 q.a, q32 q.b, .slice A n c, q64 q.mac] #[.int .i64 0, .int .i64 0, .int .u32 0, .int .u32 0, .int .u32 0, .int .u32 0, .int .i64 0, .int .u32 0, .int .u32 0, .int .u32 0, .int .u32 0, .int .u32 0, .int .u32 0, .bool false, .int .u32 0, .int .u32 0]
          have hcp0 := fun i => (hO.b0.cell i).trans (peer_cell _ i)
          have hcq0 := hO.b1.cell
          go_enter Try.func18, Try.ntmps18
          go_wp2_with (first
            | ((with_reducible refine own_loadg0 hO ?_ _ rfl rfl _ Try.underlying26 rfl (peer_size p) ?_); (· first | rfl | (simp [Region.wanted, yielded]; done)))
            | ((with_reducible refine own_loadg1 hO ?_ _ rfl rfl _ Try.underlying30 rfl (by kernel_rfl) ?_); (· first | rfl | (simp [Region.wanted, yielded]; done)))
            | (go_at_call 34; (with_reducible refine (hf _).mono ?_); rintro e w1 ⟨rfl, hb1⟩; replace hO := hO.grow hb1; have hcp1 := fun i => (hO.b0.cell i).trans (peer_cell _ i); have hcq1 := hO.b1.cell)
            | (go_at_call 38; (with_reducible refine (hr _ (hB.below hO.below)).mono ?_); rintro e w5 ⟨rfl, hb5⟩; replace hO := hO.grow hb5; have hcp5 := fun i => (hO.b0.cell i).trans (peer_cell _ i); have hcq5 := hO.b1.cell)
            | (with_reducible refine own_row2 (#[.int .i64 0, .int .i64 0, .int .u32 0, .int .u32 0, .int .u32 0, .int .u32 0, .int .i64 0, .int .u32 0, .int .u32 0, .int .u32 0, .int .u32 0, .int .u32 0, .int .u32 0, .bool false, .int .u32 0, .int .u32 0]) hO rfl _ _ rfl rfl rfl (by kernel_rfl) (by kernel_rfl) (by simp [Value.oneCell', q32, q64]) ?_; intro w41 hO41 hz41 hk41; replace hO := hO41; clear hO41 hz41 hk41))
          exact bodyPost_ret (results_ct Try.results18 _ _ _ _ _ _ rfl rfl hO.b2 Try.underlying26 rfl (by kernel_rfl)) rfl ⟨by rw [peer_none]; rfl, hO.below⟩
set_option maxHeartbeats 8000000 in
theorem rshdone_yes (p : Peer10) (q : P7) (A : Option Addr) (n c : Nat) (w : World) (hn : q.body.length = n) (hB : Bytes w A c q.body) (hlen : q.body.length ≤ 2000) (hs : ¬ p.side = 0) (hfb : fits10 p q 3 = true) (hx : p.half = true) (hy : q.a = p.a2) (hz : q.b = p.b2) (hrb : right7 p.base q = true) : Calls Try.prog 18 #[.agg (peerC p), .agg #[.int .i64 q.kind, .int .i64 q.dir, .int .i64 q.train, q32 q.a, q32 q.b, .slice A n c, q64 q.mac]] w (RetP10 w (setB2 (setA2 (setHalf (setKey (setB (setA (setState p 2) (setState p 2).a2) (setA (setState p 2) (setState p 2).a2).b2) (Derive (setB (setA (setState p 2) (setState p 2).a2) (setA (setState p 2) (setState p 2).a2).b2).base (setB (setA (setState p 2) (setState p 2).a2) (setA (setState p 2) (setState p 2).a2).b2).a (setB (setA (setState p 2) (setState p 2).a2) (setA (setState p 2) (setState p 2).a2).b2).b)) false) 0) 0) 0) := by
  have hf := fun W => rshfits_k p q 3 A n c W hn hlen
  have hr := fun W (h : Bytes W A c q.body) => prright_k p.base q A n c W hn.symm h hlen
  obtain ⟨hs1, hs2⟩ := side_ne p hs
  rw [hfb] at hf
  rw [hrb] at hr
  have hy1 : (q.a != p.a2) = false := by simp [hy]
  have hz1 : (q.b != p.b2) = false := by simp [hz]
  clear hs hfb hy hz hrb
  have hO : Own w _ [_, _, _] := Own.start3 w 26 30 26 (peerC p) #[.int .i64 q.kind, .int .i64 q.dir, .int .i64 q.train, q32 q.a, q32 q.b, .slice A n c, q64 q.mac] #[.int .i64 0, .int .i64 0, .int .u32 0, .int .u32 0, .int .u32 0, .int .u32 0, .int .i64 0, .int .u32 0, .int .u32 0, .int .u32 0, .int .u32 0, .int .u32 0, .int .u32 0, .bool false, .int .u32 0, .int .u32 0]
  have hcp0 := fun i => (hO.b0.cell i).trans (peer_cell _ i)
  have hcq0 := hO.b1.cell
  go_enter Try.func18, Try.ntmps18
  go_wp2_with (first
    | ((with_reducible refine own_loadg0 hO ?_ _ rfl rfl _ Try.underlying26 rfl (peer_size p) ?_); (· first | rfl | (simp [Region.wanted, yielded]; done)))
    | ((with_reducible refine own_loadg1 hO ?_ _ rfl rfl _ Try.underlying30 rfl (by kernel_rfl) ?_); (· first | rfl | (simp [Region.wanted, yielded]; done)))
    | (go_at_call 34; (with_reducible refine (hf _).mono ?_); rintro e w1 ⟨rfl, hb1⟩; replace hO := hO.grow hb1; have hcp1 := fun i => (hO.b0.cell i).trans (peer_cell _ i); have hcq1 := hO.b1.cell)
    | (go_at_call 38; (with_reducible refine (hr _ (hB.below hO.below)).mono ?_); rintro e w5 ⟨rfl, hb5⟩; replace hO := hO.grow hb5; have hcp5 := fun i => (hO.b0.cell i).trans (peer_cell _ i); have hcq5 := hO.b1.cell)
    | (with_reducible refine own_cell0 6 (.int .i64 2) hO rfl _ _ _ rfl rfl rfl (by kernel_rfl) (by simp [peerC]) rfl ?_; intro w31 hO31 hz31 hk31; replace hO := hO31; clear hO31 hz31 hk31; rw [peer_set6] at hO; have hcp31 := fun i => (hO.b0.cell i).trans (peer_cell _ i); have hcq31 := hO.b1.cell)
    | (with_reducible refine own_cell0 7 (q32 (setState p 2).a2) hO rfl _ _ _ rfl rfl rfl (by kernel_rfl) (by simp [peerC]) rfl ?_; intro w32 hO32 hz32 hk32; replace hO := hO32; clear hO32 hz32 hk32; rw [peer_set7] at hO; have hcp32 := fun i => (hO.b0.cell i).trans (peer_cell _ i); have hcq32 := hO.b1.cell)
    | (with_reducible refine own_cell0 8 (q32 (setA (setState p 2) (setState p 2).a2).b2) hO rfl _ _ _ rfl rfl rfl (by kernel_rfl) (by simp [peerC]) rfl ?_; intro w33 hO33 hz33 hk33; replace hO := hO33; clear hO33 hz33 hk33; rw [peer_set8] at hO; have hcp33 := fun i => (hO.b0.cell i).trans (peer_cell _ i); have hcq33 := hO.b1.cell)
    | (go_at_call 39; (with_reducible refine (rderive_k (setB (setA (setState p 2) (setState p 2).a2) (setA (setState p 2) (setState p 2).a2).b2).base (setB (setA (setState p 2) (setState p 2).a2) (setA (setState p 2) (setState p 2).a2).b2).a (setB (setA (setState p 2) (setState p 2).a2) (setA (setState p 2) (setState p 2).a2).b2).b _).mono ?_); rintro e w34 ⟨rfl, hb34⟩; replace hO := hO.grow hb34; have hcp34 := fun i => (hO.b0.cell i).trans (peer_cell _ i); have hcq34 := hO.b1.cell)
    | (with_reducible refine own_mid0 9 (#[q32 (Derive (setB (setA (setState p 2) (setState p 2).a2) (setA (setState p 2) (setState p 2).a2).b2).base (setB (setA (setState p 2) (setState p 2).a2) (setA (setState p 2) (setState p 2).a2).b2).a (setB (setA (setState p 2) (setState p 2).a2) (setA (setState p 2) (setState p 2).a2).b2).b).k0, q32 (Derive (setB (setA (setState p 2) (setState p 2).a2) (setA (setState p 2) (setState p 2).a2).b2).base (setB (setA (setState p 2) (setState p 2).a2) (setA (setState p 2) (setState p 2).a2).b2).a (setB (setA (setState p 2) (setState p 2).a2) (setA (setState p 2) (setState p 2).a2).b2).b).k1, q32 (Derive (setB (setA (setState p 2) (setState p 2).a2) (setA (setState p 2) (setState p 2).a2).b2).base (setB (setA (setState p 2) (setState p 2).a2) (setA (setState p 2) (setState p 2).a2).b2).a (setB (setA (setState p 2) (setState p 2).a2) (setA (setState p 2) (setState p 2).a2).b2).b).k2, q32 (Derive (setB (setA (setState p 2) (setState p 2).a2) (setA (setState p 2) (setState p 2).a2).b2).base (setB (setA (setState p 2) (setState p 2).a2) (setA (setState p 2) (setState p 2).a2).b2).a (setB (setA (setState p 2) (setState p 2).a2) (setA (setState p 2) (setState p 2).a2).b2).b).k3]) hO rfl _ _ _ rfl rfl rfl (by kernel_rfl) (by simp [peerC]) (by simp [Value.oneCell', q32]) ?_; intro w35 hO35 hz35 hk35; replace hO := hO35; clear hO35 hz35 hk35; rw [peer_set9] at hO)
    | (with_reducible refine own_cell0 13 (.bool false) hO rfl _ _ _ rfl rfl rfl (by kernel_rfl) (by simp [peerC]) rfl ?_; intro w36 hO36 hz36 hk36; replace hO := hO36; clear hO36 hz36 hk36; rw [peer_set13] at hO)
    | (with_reducible refine own_cell0 14 (.int .u32 0) hO rfl _ _ _ rfl rfl rfl (by kernel_rfl) (by simp [peerC]) rfl ?_; intro w37 hO37 hz37 hk37; replace hO := hO37; clear hO37 hz37 hk37; rw [peer_set14z] at hO)
    | (with_reducible refine own_cell0 15 (.int .u32 0) hO rfl _ _ _ rfl rfl rfl (by kernel_rfl) (by simp [peerC]) rfl ?_; intro w38 hO38 hz38 hk38; replace hO := hO38; clear hO38 hz38 hk38; rw [peer_set15z] at hO)
    | (with_reducible refine own_row2 (peerC (setB2 (setA2 (setHalf (setKey (setB (setA (setState p 2) (setState p 2).a2) (setA (setState p 2) (setState p 2).a2).b2) (Derive (setB (setA (setState p 2) (setState p 2).a2) (setA (setState p 2) (setState p 2).a2).b2).base (setB (setA (setState p 2) (setState p 2).a2) (setA (setState p 2) (setState p 2).a2).b2).a (setB (setA (setState p 2) (setState p 2).a2) (setA (setState p 2) (setState p 2).a2).b2).b)) false) 0) 0)) hO rfl _ _ rfl rfl rfl (by kernel_rfl) (by kernel_rfl) (peer_cells (setB2 (setA2 (setHalf (setKey (setB (setA (setState p 2) (setState p 2).a2) (setA (setState p 2) (setState p 2).a2).b2) (Derive (setB (setA (setState p 2) (setState p 2).a2) (setA (setState p 2) (setState p 2).a2).b2).base (setB (setA (setState p 2) (setState p 2).a2) (setA (setState p 2) (setState p 2).a2).b2).a (setB (setA (setState p 2) (setState p 2).a2) (setA (setState p 2) (setState p 2).a2).b2).b)) false) 0) 0)) ?_; intro w39 hO39 hz39 hk39; replace hO := hO39; clear hO39 hz39 hk39)
    | ((with_reducible refine own_loadg0 hO ?_ _ rfl rfl _ Try.underlying26 rfl (peer_size (setB2 (setA2 (setHalf (setKey (setB (setA (setState p 2) (setState p 2).a2) (setA (setState p 2) (setState p 2).a2).b2) (Derive (setB (setA (setState p 2) (setState p 2).a2) (setA (setState p 2) (setState p 2).a2).b2).base (setB (setA (setState p 2) (setState p 2).a2) (setA (setState p 2) (setState p 2).a2).b2).a (setB (setA (setState p 2) (setState p 2).a2) (setA (setState p 2) (setState p 2).a2).b2).b)) false) 0) 0)) ?_); (· first | rfl | (simp [Region.wanted, yielded]; done))))
  exact bodyPost_ret (results_ct Try.results18 _ _ _ _ _ _ rfl rfl hO.b2 Try.underlying26 rfl (peer_size _)) rfl ⟨rfl, hO.below⟩
theorem rshdone_k (p : Peer10) (q : P7) (A : Option Addr) (n c : Nat) (w : World) (hn : q.body.length = n) (hB : Bytes w A c q.body) (hlen : q.body.length ≤ 2000) : Calls Try.prog 18 #[.agg (peerC p), .agg #[.int .i64 q.kind, .int .i64 q.dir, .int .i64 q.train, q32 q.a, q32 q.b, .slice A n c, q64 q.mac]] w (RetP10 w (doneP p q) (doneE p q)) := by
  by_cases h : doneE p q = 0
  · unfold doneP
    rw [h, if_pos rfl]
    have hs : ¬ p.side = 0 := by
      intro a
      simp [doneE, a] at h
    have hfb : fits10 p q 3 = true := by
      cases a : fits10 p q 3
      · simp [doneE, a] at h
      · rfl
    have hx : p.half = true := by
      cases a : p.half
      · simp [doneE, a, hs, hfb] at h
      · rfl
    have hy : q.a = p.a2 := by
      by_cases a : q.a = p.a2
      · exact a
      · simp [doneE, a, hs, hfb, hx] at h
    have hz : q.b = p.b2 := by
      by_cases a : q.b = p.b2
      · exact a
      · simp [doneE, a, hs, hfb, hx] at h
    have hrb : right7 p.base q = true := by
      cases a : right7 p.base q
      · simp [doneE, a, hs, hfb, hx, hy, hz] at h
      · rfl
    have := rshdone_yes p q A n c w hn hB hlen hs hfb hx hy hz hrb
    have e : (setB2 (setA2 (setHalf (setKey (setB (setA (setState p 2) (setState p 2).a2) (setA (setState p 2) (setState p 2).a2).b2) (Derive (setB (setA (setState p 2) (setState p 2).a2) (setA (setState p 2) (setState p 2).a2).b2).base (setB (setA (setState p 2) (setState p 2).a2) (setA (setState p 2) (setState p 2).a2).b2).a (setB (setA (setState p 2) (setState p 2).a2) (setA (setState p 2) (setState p 2).a2).b2).b)) false) 0) 0) = ⟨p.side, p.train, p.base, 2, p.a2, p.b2, Derive p.base p.a2 p.b2, false, 0, 0⟩ := by simp only [setB2, setA2, setHalf, setKey, setB, setA, setState, up10]
    rw [e] at this
    rw [← hy, ← hz] at this; exact this
  · unfold doneP
    rw [if_neg h]
    exact rshdone_err p q A n c w hn hB hlen h
end Go.Proofs.Ytnngknmmokajgaa
