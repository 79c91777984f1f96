/- Confirm: the program's. -/
import Derived.Test.YtnngknmmokajgaaShakeSets
import Derived.Test.YtnngknmmokajgaaShakeUp
set_option linter.unusedSimpArgs false
set_option linter.unusedVariables false
namespace Go.Proofs.Ytnngknmmokajgaa
open Go.RowKit Go.Shelf

set_option maxHeartbeats 8000000 in
theorem shconfirm_err (p : Peer10) (q : P7) (A : Option Addr) (n c : Nat) (w : World) (hn : q.body.length = n) (hB : Bytes w A c q.body) (hlen : q.body.length ≤ 2000) (he : confirmE p q ≠ 0) : Calls Try.prog 15 #[.agg (peerC p), .agg #[.int .i64 q.kind, .int .i64 q.dir, .int .i64 q.train, q32 q.a, q32 q.b, .slice A n c, q64 q.mac]] w (Ret10 w Peer10.none_ P7.none_ (confirmE p q)) := by
  have hf := fun W => shfits_k p q 2 A n c W hn hlen
  have hr := fun W (h : Bytes W A c q.body) => pright_k p.base q A n c W hn.symm h hlen
  have ht := fun W => shtrain_k p W
  by_cases hs : p.side = 0
  · cases hfb : fits10 p q 2 with
    | false =>
      have e0 : confirmE p q = 1 := by simp [confirmE, *]
      rw [e0]
      clear e0 he
      obtain ⟨hs1, hs2⟩ := side_eq p hs
      rw [hs1] at ht
      rw [hfb] at hf
      clear hs hfb
      have hO : Own w _ [_, _, _, _] := Own.start4 w 26 30 26 30 (peerC p) #[.int .i64 q.kind, .int .i64 q.dir, .int .i64 q.train, q32 q.a, q32 q.b, .slice A n c, q64 q.mac] #[.int .i64 0, .int .i64 0, .int .u32 0, .int .u32 0, .int .u32 0, .int .u32 0, .int .i64 0, .int .u32 0, .int .u32 0, .int .u32 0, .int .u32 0, .int .u32 0, .int .u32 0, .bool false, .int .u32 0, .int .u32 0] #[.int .i64 0, .int .i64 0, .int .i64 0, .int .u32 0, .int .u32 0, .slice none 0 0, .int .u64 0]
      have hcp0 := fun i => (hO.b0.cell i).trans (peer_cell _ i)
      have hcq0 := hO.b1.cell
      go_enter Try.func15, Try.ntmps15
      go_wp2_with (first
        | ((with_reducible refine own_loadg0 hO ?_ _ rfl rfl _ Try.underlying26 rfl (peer_size p) ?_); (· first | rfl | (simp [Region.wanted, yielded]; done)))
        | ((with_reducible refine own_loadg1 hO ?_ _ rfl rfl _ Try.underlying30 rfl (by kernel_rfl) ?_); (· first | rfl | (simp [Region.wanted, yielded]; done)))
        | (go_at_call 32; (with_reducible refine (hf _).mono ?_); rintro e w1 ⟨rfl, hb1⟩; replace hO := hO.grow hb1; have hcp1 := fun i => (hO.b0.cell i).trans (peer_cell _ i); have hcq1 := hO.b1.cell)
        | (go_at_call 29; (with_reducible refine (ht _).mono ?_); rintro e w2 ⟨rfl, hb2⟩; replace hO := hO.grow hb2; have hcp2 := fun i => (hO.b0.cell i).trans (peer_cell _ i); have hcq2 := hO.b1.cell)
        | (go_at_call 36; (with_reducible refine (hr _ (hB.below hO.below)).mono ?_); rintro e w5 ⟨rfl, hb5⟩; replace hO := hO.grow hb5; have hcp5 := fun i => (hO.b0.cell i).trans (peer_cell _ i); have hcq5 := hO.b1.cell)
        | (with_reducible refine own_row2 (#[.int .i64 0, .int .i64 0, .int .u32 0, .int .u32 0, .int .u32 0, .int .u32 0, .int .i64 0, .int .u32 0, .int .u32 0, .int .u32 0, .int .u32 0, .int .u32 0, .int .u32 0, .bool false, .int .u32 0, .int .u32 0]) hO rfl _ _ rfl rfl rfl (by kernel_rfl) (by kernel_rfl) (by simp [Value.oneCell', q32, q64]) ?_; intro w41 hO41 hz41 hk41; replace hO := hO41; clear hO41 hz41 hk41)
        | (with_reducible refine own_row3 (#[.int .i64 0, .int .i64 0, .int .i64 0, .int .u32 0, .int .u32 0, .slice none 0 0, .int .u64 0]) hO rfl _ _ rfl rfl rfl (by kernel_rfl) (by kernel_rfl) (by simp [Value.oneCell', q32, q64]) ?_; intro w42 hO42 hz42 hk42; replace hO := hO42; clear hO42 hz42 hk42))
      exact bodyPost_ret (results_cct Try.results15 _ _ _ _ _ _ _ _ _ rfl rfl rfl hO.b2 hO.b3 Try.underlying26 rfl (by kernel_rfl) Try.underlying30 rfl (by kernel_rfl)) rfl (ret_none _ _ _ hO.below)
    | true =>
      by_cases hx : p.state = 1
      · by_cases hy : q.a = p.a
        · cases hrb : right7 p.base q with
          | true => exact absurd (by simp [confirmE, *]) he
          | false =>
            have e0 : confirmE p q = 90 := by simp [confirmE, *]
            rw [e0]
            clear e0 he
            obtain ⟨hs1, hs2⟩ := side_eq p hs
            rw [hs1] at ht
            rw [hfb] at hf
            rw [hrb] at hr
            have hx1 : (p.state != 1) = false := by simp [hx]
            have hy1 : (q.a != p.a) = false := by simp [hy]
            clear hs hfb hx hy hrb
            have hO : Own w _ [_, _, _, _] := Own.start4 w 26 30 26 30 (peerC p) #[.int .i64 q.kind, .int .i64 q.dir, .int .i64 q.train, q32 q.a, q32 q.b, .slice A n c, q64 q.mac] #[.int .i64 0, .int .i64 0, .int .u32 0, .int .u32 0, .int .u32 0, .int .u32 0, .int .i64 0, .int .u32 0, .int .u32 0, .int .u32 0, .int .u32 0, .int .u32 0, .int .u32 0, .bool false, .int .u32 0, .int .u32 0] #[.int .i64 0, .int .i64 0, .int .i64 0, .int .u32 0, .int .u32 0, .slice none 0 0, .int .u64 0]
            have hcp0 := fun i => (hO.b0.cell i).trans (peer_cell _ i)
            have hcq0 := hO.b1.cell
            go_enter Try.func15, Try.ntmps15
            go_wp2_with (first
              | ((with_reducible refine own_loadg0 hO ?_ _ rfl rfl _ Try.underlying26 rfl (peer_size p) ?_); (· first | rfl | (simp [Region.wanted, yielded]; done)))
              | ((with_reducible refine own_loadg1 hO ?_ _ rfl rfl _ Try.underlying30 rfl (by kernel_rfl) ?_); (· first | rfl | (simp [Region.wanted, yielded]; done)))
              | (go_at_call 32; (with_reducible refine (hf _).mono ?_); rintro e w1 ⟨rfl, hb1⟩; replace hO := hO.grow hb1; have hcp1 := fun i => (hO.b0.cell i).trans (peer_cell _ i); have hcq1 := hO.b1.cell)
              | (go_at_call 29; (with_reducible refine (ht _).mono ?_); rintro e w2 ⟨rfl, hb2⟩; replace hO := hO.grow hb2; have hcp2 := fun i => (hO.b0.cell i).trans (peer_cell _ i); have hcq2 := hO.b1.cell)
              | (go_at_call 36; (with_reducible refine (hr _ (hB.below hO.below)).mono ?_); rintro e w5 ⟨rfl, hb5⟩; replace hO := hO.grow hb5; have hcp5 := fun i => (hO.b0.cell i).trans (peer_cell _ i); have hcq5 := hO.b1.cell)
              | (with_reducible refine own_row2 (#[.int .i64 0, .int .i64 0, .int .u32 0, .int .u32 0, .int .u32 0, .int .u32 0, .int .i64 0, .int .u32 0, .int .u32 0, .int .u32 0, .int .u32 0, .int .u32 0, .int .u32 0, .bool false, .int .u32 0, .int .u32 0]) hO rfl _ _ rfl rfl rfl (by kernel_rfl) (by kernel_rfl) (by simp [Value.oneCell', q32, q64]) ?_; intro w41 hO41 hz41 hk41; replace hO := hO41; clear hO41 hz41 hk41)
              | (with_reducible refine own_row3 (#[.int .i64 0, .int .i64 0, .int .i64 0, .int .u32 0, .int .u32 0, .slice none 0 0, .int .u64 0]) hO rfl _ _ rfl rfl rfl (by kernel_rfl) (by kernel_rfl) (by simp [Value.oneCell', q32, q64]) ?_; intro w42 hO42 hz42 hk42; replace hO := hO42; clear hO42 hz42 hk42))
            exact bodyPost_ret (results_cct Try.results15 _ _ _ _ _ _ _ _ _ rfl rfl rfl hO.b2 hO.b3 Try.underlying26 rfl (by kernel_rfl) Try.underlying30 rfl (by kernel_rfl)) rfl (ret_none _ _ _ hO.below)
        · have e0 : confirmE p q = 110 := by simp [confirmE, *]
          rw [e0]
          clear e0 he
          obtain ⟨hs1, hs2⟩ := side_eq p hs
          rw [hs1] at ht
          rw [hfb] at hf
          have hx1 : (p.state != 1) = false := by simp [hx]
          have hy1 : (q.a != p.a) = true := by simp [hy]
          clear hs hfb hx hy
          have hO : Own w _ [_, _, _, _] := Own.start4 w 26 30 26 30 (peerC p) #[.int .i64 q.kind, .int .i64 q.dir, .int .i64 q.train, q32 q.a, q32 q.b, .slice A n c, q64 q.mac] #[.int .i64 0, .int .i64 0, .int .u32 0, .int .u32 0, .int .u32 0, .int .u32 0, .int .i64 0, .int .u32 0, .int .u32 0, .int .u32 0, .int .u32 0, .int .u32 0, .int .u32 0, .bool false, .int .u32 0, .int .u32 0] #[.int .i64 0, .int .i64 0, .int .i64 0, .int .u32 0, .int .u32 0, .slice none 0 0, .int .u64 0]
          have hcp0 := fun i => (hO.b0.cell i).trans (peer_cell _ i)
          have hcq0 := hO.b1.cell
          go_enter Try.func15, Try.ntmps15
          go_wp2_with (first
            | ((with_reducible refine own_loadg0 hO ?_ _ rfl rfl _ Try.underlying26 rfl (peer_size p) ?_); (· first | rfl | (simp [Region.wanted, yielded]; done)))
            | ((with_reducible refine own_loadg1 hO ?_ _ rfl rfl _ Try.underlying30 rfl (by kernel_rfl) ?_); (· first | rfl | (simp [Region.wanted, yielded]; done)))
            | (go_at_call 32; (with_reducible refine (hf _).mono ?_); rintro e w1 ⟨rfl, hb1⟩; replace hO := hO.grow hb1; have hcp1 := fun i => (hO.b0.cell i).trans (peer_cell _ i); have hcq1 := hO.b1.cell)
            | (go_at_call 29; (with_reducible refine (ht _).mono ?_); rintro e w2 ⟨rfl, hb2⟩; replace hO := hO.grow hb2; have hcp2 := fun i => (hO.b0.cell i).trans (peer_cell _ i); have hcq2 := hO.b1.cell)
            | (go_at_call 36; (with_reducible refine (hr _ (hB.below hO.below)).mono ?_); rintro e w5 ⟨rfl, hb5⟩; replace hO := hO.grow hb5; have hcp5 := fun i => (hO.b0.cell i).trans (peer_cell _ i); have hcq5 := hO.b1.cell)
            | (with_reducible refine own_row2 (#[.int .i64 0, .int .i64 0, .int .u32 0, .int .u32 0, .int .u32 0, .int .u32 0, .int .i64 0, .int .u32 0, .int .u32 0, .int .u32 0, .int .u32 0, .int .u32 0, .int .u32 0, .bool false, .int .u32 0, .int .u32 0]) hO rfl _ _ rfl rfl rfl (by kernel_rfl) (by kernel_rfl) (by simp [Value.oneCell', q32, q64]) ?_; intro w41 hO41 hz41 hk41; replace hO := hO41; clear hO41 hz41 hk41)
            | (with_reducible refine own_row3 (#[.int .i64 0, .int .i64 0, .int .i64 0, .int .u32 0, .int .u32 0, .slice none 0 0, .int .u64 0]) hO rfl _ _ rfl rfl rfl (by kernel_rfl) (by kernel_rfl) (by simp [Value.oneCell', q32, q64]) ?_; intro w42 hO42 hz42 hk42; replace hO := hO42; clear hO42 hz42 hk42))
          exact bodyPost_ret (results_cct Try.results15 _ _ _ _ _ _ _ _ _ rfl rfl rfl hO.b2 hO.b3 Try.underlying26 rfl (by kernel_rfl) Try.underlying30 rfl (by kernel_rfl)) rfl (ret_none _ _ _ hO.below)
      · have e0 : confirmE p q = 6 := by simp [confirmE, *]
        rw [e0]
        clear e0 he
        obtain ⟨hs1, hs2⟩ := side_eq p hs
        rw [hs1] at ht
        rw [hfb] at hf
        have hx1 : (p.state != 1) = true := by simp [hx]
        clear hs hfb hx
        have hO : Own w _ [_, _, _, _] := Own.start4 w 26 30 26 30 (peerC p) #[.int .i64 q.kind, .int .i64 q.dir, .int .i64 q.train, q32 q.a, q32 q.b, .slice A n c, q64 q.mac] #[.int .i64 0, .int .i64 0, .int .u32 0, .int .u32 0, .int .u32 0, .int .u32 0, .int .i64 0, .int .u32 0, .int .u32 0, .int .u32 0, .int .u32 0, .int .u32 0, .int .u32 0, .bool false, .int .u32 0, .int .u32 0] #[.int .i64 0, .int .i64 0, .int .i64 0, .int .u32 0, .int .u32 0, .slice none 0 0, .int .u64 0]
        have hcp0 := fun i => (hO.b0.cell i).trans (peer_cell _ i)
        have hcq0 := hO.b1.cell
        go_enter Try.func15, Try.ntmps15
        go_wp2_with (first
          | ((with_reducible refine own_loadg0 hO ?_ _ rfl rfl _ Try.underlying26 rfl (peer_size p) ?_); (· first | rfl | (simp [Region.wanted, yielded]; done)))
          | ((with_reducible refine own_loadg1 hO ?_ _ rfl rfl _ Try.underlying30 rfl (by kernel_rfl) ?_); (· first | rfl | (simp [Region.wanted, yielded]; done)))
          | (go_at_call 32; (with_reducible refine (hf _).mono ?_); rintro e w1 ⟨rfl, hb1⟩; replace hO := hO.grow hb1; have hcp1 := fun i => (hO.b0.cell i).trans (peer_cell _ i); have hcq1 := hO.b1.cell)
          | (go_at_call 29; (with_reducible refine (ht _).mono ?_); rintro e w2 ⟨rfl, hb2⟩; replace hO := hO.grow hb2; have hcp2 := fun i => (hO.b0.cell i).trans (peer_cell _ i); have hcq2 := hO.b1.cell)
          | (go_at_call 36; (with_reducible refine (hr _ (hB.below hO.below)).mono ?_); rintro e w5 ⟨rfl, hb5⟩; replace hO := hO.grow hb5; have hcp5 := fun i => (hO.b0.cell i).trans (peer_cell _ i); have hcq5 := hO.b1.cell)
          | (with_reducible refine own_row2 (#[.int .i64 0, .int .i64 0, .int .u32 0, .int .u32 0, .int .u32 0, .int .u32 0, .int .i64 0, .int .u32 0, .int .u32 0, .int .u32 0, .int .u32 0, .int .u32 0, .int .u32 0, .bool false, .int .u32 0, .int .u32 0]) hO rfl _ _ rfl rfl rfl (by kernel_rfl) (by kernel_rfl) (by simp [Value.oneCell', q32, q64]) ?_; intro w41 hO41 hz41 hk41; replace hO := hO41; clear hO41 hz41 hk41)
          | (with_reducible refine own_row3 (#[.int .i64 0, .int .i64 0, .int .i64 0, .int .u32 0, .int .u32 0, .slice none 0 0, .int .u64 0]) hO rfl _ _ rfl rfl rfl (by kernel_rfl) (by kernel_rfl) (by simp [Value.oneCell', q32, q64]) ?_; intro w42 hO42 hz42 hk42; replace hO := hO42; clear hO42 hz42 hk42))
        exact bodyPost_ret (results_cct Try.results15 _ _ _ _ _ _ _ _ _ rfl rfl rfl hO.b2 hO.b3 Try.underlying26 rfl (by kernel_rfl) Try.underlying30 rfl (by kernel_rfl)) rfl (ret_none _ _ _ hO.below)
  · have e0 : confirmE p q = 1 := by unfold confirmE; rw [if_pos (.inl hs)]
    rw [e0]
    clear e0 he
    obtain ⟨hs1, hs2⟩ := side_ne p hs
    rw [hs1] at ht
    generalize fits10 p q 2 = fb at *
    clear hs
    cases fb with
    | true =>
      have hO : Own w _ [_, _, _, _] := Own.start4 w 26 30 26 30 (peerC p) #[.int .i64 q.kind, .int .i64 q.dir, .int .i64 q.train, q32 q.a, q32 q.b, .slice A n c, q64 q.mac] #[.int .i64 0, .int .i64 0, .int .u32 0, .int .u32 0, .int .u32 0, .int .u32 0, .int .i64 0, .int .u32 0, .int .u32 0, .int .u32 0, .int .u32 0, .int .u32 0, .int .u32 0, .bool false, .int .u32 0, .int .u32 0] #[.int .i64 0, .int .i64 0, .int .i64 0, .int .u32 0, .int .u32 0, .slice none 0 0, .int .u64 0]
      have hcp0 := fun i => (hO.b0.cell i).trans (peer_cell _ i)
      have hcq0 := hO.b1.cell
      go_enter Try.func15, Try.ntmps15
      go_wp2_with (first
        | ((with_reducible refine own_loadg0 hO ?_ _ rfl rfl _ Try.underlying26 rfl (peer_size p) ?_); (· first | rfl | (simp [Region.wanted, yielded]; done)))
        | ((with_reducible refine own_loadg1 hO ?_ _ rfl rfl _ Try.underlying30 rfl (by kernel_rfl) ?_); (· first | rfl | (simp [Region.wanted, yielded]; done)))
        | (go_at_call 32; (with_reducible refine (hf _).mono ?_); rintro e w1 ⟨rfl, hb1⟩; replace hO := hO.grow hb1; have hcp1 := fun i => (hO.b0.cell i).trans (peer_cell _ i); have hcq1 := hO.b1.cell)
        | (go_at_call 29; (with_reducible refine (ht _).mono ?_); rintro e w2 ⟨rfl, hb2⟩; replace hO := hO.grow hb2; have hcp2 := fun i => (hO.b0.cell i).trans (peer_cell _ i); have hcq2 := hO.b1.cell)
        | (go_at_call 36; (with_reducible refine (hr _ (hB.below hO.below)).mono ?_); rintro e w5 ⟨rfl, hb5⟩; replace hO := hO.grow hb5; have hcp5 := fun i => (hO.b0.cell i).trans (peer_cell _ i); have hcq5 := hO.b1.cell)
        | (with_reducible refine own_row2 (#[.int .i64 0, .int .i64 0, .int .u32 0, .int .u32 0, .int .u32 0, .int .u32 0, .int .i64 0, .int .u32 0, .int .u32 0, .int .u32 0, .int .u32 0, .int .u32 0, .int .u32 0, .bool false, .int .u32 0, .int .u32 0]) hO rfl _ _ rfl rfl rfl (by kernel_rfl) (by kernel_rfl) (by simp [Value.oneCell', q32, q64]) ?_; intro w41 hO41 hz41 hk41; replace hO := hO41; clear hO41 hz41 hk41)
        | (with_reducible refine own_row3 (#[.int .i64 0, .int .i64 0, .int .i64 0, .int .u32 0, .int .u32 0, .slice none 0 0, .int .u64 0]) hO rfl _ _ rfl rfl rfl (by kernel_rfl) (by kernel_rfl) (by simp [Value.oneCell', q32, q64]) ?_; intro w42 hO42 hz42 hk42; replace hO := hO42; clear hO42 hz42 hk42))
      exact bodyPost_ret (results_cct Try.results15 _ _ _ _ _ _ _ _ _ rfl rfl rfl hO.b2 hO.b3 Try.underlying26 rfl (by kernel_rfl) Try.underlying30 rfl (by kernel_rfl)) rfl (ret_none _ _ _ hO.below)
    | false =>
      have hO : Own w _ [_, _, _, _] := Own.start4 w 26 30 26 30 (peerC p) #[.int .i64 q.kind, .int .i64 q.dir, .int .i64 q.train, q32 q.a, q32 q.b, .slice A n c, q64 q.mac] #[.int .i64 0, .int .i64 0, .int .u32 0, .int .u32 0, .int .u32 0, .int .u32 0, .int .i64 0, .int .u32 0, .int .u32 0, .int .u32 0, .int .u32 0, .int .u32 0, .int .u32 0, .bool false, .int .u32 0, .int .u32 0] #[.int .i64 0, .int .i64 0, .int .i64 0, .int .u32 0, .int .u32 0, .slice none 0 0, .int .u64 0]
      have hcp0 := fun i => (hO.b0.cell i).trans (peer_cell _ i)
      have hcq0 := hO.b1.cell
      go_enter Try.func15, Try.ntmps15
      go_wp2_with (first
        | ((with_reducible refine own_loadg0 hO ?_ _ rfl rfl _ Try.underlying26 rfl (peer_size p) ?_); (· first | rfl | (simp [Region.wanted, yielded]; done)))
        | ((with_reducible refine own_loadg1 hO ?_ _ rfl rfl _ Try.underlying30 rfl (by kernel_rfl) ?_); (· first | rfl | (simp [Region.wanted, yielded]; done)))
        | (go_at_call 32; (with_reducible refine (hf _).mono ?_); rintro e w1 ⟨rfl, hb1⟩; replace hO := hO.grow hb1; have hcp1 := fun i => (hO.b0.cell i).trans (peer_cell _ i); have hcq1 := hO.b1.cell)
        | (go_at_call 29; (with_reducible refine (ht _).mono ?_); rintro e w2 ⟨rfl, hb2⟩; replace hO := hO.grow hb2; have hcp2 := fun i => (hO.b0.cell i).trans (peer_cell _ i); have hcq2 := hO.b1.cell)
        | (go_at_call 36; (with_reducible refine (hr _ (hB.below hO.below)).mono ?_); rintro e w5 ⟨rfl, hb5⟩; replace hO := hO.grow hb5; have hcp5 := fun i => (hO.b0.cell i).trans (peer_cell _ i); have hcq5 := hO.b1.cell)
        | (with_reducible refine own_row2 (#[.int .i64 0, .int .i64 0, .int .u32 0, .int .u32 0, .int .u32 0, .int .u32 0, .int .i64 0, .int .u32 0, .int .u32 0, .int .u32 0, .int .u32 0, .int .u32 0, .int .u32 0, .bool false, .int .u32 0, .int .u32 0]) hO rfl _ _ rfl rfl rfl (by kernel_rfl) (by kernel_rfl) (by simp [Value.oneCell', q32, q64]) ?_; intro w41 hO41 hz41 hk41; replace hO := hO41; clear hO41 hz41 hk41)
        | (with_reducible refine own_row3 (#[.int .i64 0, .int .i64 0, .int .i64 0, .int .u32 0, .int .u32 0, .slice none 0 0, .int .u64 0]) hO rfl _ _ rfl rfl rfl (by kernel_rfl) (by kernel_rfl) (by simp [Value.oneCell', q32, q64]) ?_; intro w42 hO42 hz42 hk42; replace hO := hO42; clear hO42 hz42 hk42))
      exact bodyPost_ret (results_cct Try.results15 _ _ _ _ _ _ _ _ _ rfl rfl rfl hO.b2 hO.b3 Try.underlying26 rfl (by kernel_rfl) Try.underlying30 rfl (by kernel_rfl)) rfl (ret_none _ _ _ hO.below)
set_option maxHeartbeats 8000000 in
theorem shconfirm_yes (p : Peer10) (q : P7) (A : Option Addr) (n c : Nat) (w : World) (hn : q.body.length = n) (hB : Bytes w A c q.body) (hlen : q.body.length ≤ 2000) (hs : p.side = 0) (hfb : fits10 p q 2 = true) (hx : p.state = 1) (hy : q.a = p.a) (hrb : right7 p.base q = true) : Calls Try.prog 15 #[.agg (peerC p), .agg #[.int .i64 q.kind, .int .i64 q.dir, .int .i64 q.train, q32 q.a, q32 q.b, .slice A n c, q64 q.mac]] w (Ret10 w (up10 p p.a q.b) (seal7 p.base ⟨3, 0, p.train, p.a, q.b, [], 0⟩) 0) := by
  have hf := fun W => shfits_k p q 2 A n c W hn hlen
  have hr := fun W (h : Bytes W A c q.body) => pright_k p.base q A n c W hn.symm h hlen
  have ht := fun W => shtrain_k p W
  obtain ⟨hs1, hs2⟩ := side_eq p hs
  rw [hs1] at ht
  rw [hfb] at hf
  rw [hrb] at hr
  have hx1 : (p.state != 1) = false := by simp [hx]
  have hy1 : (q.a != p.a) = false := by simp [hy]
  clear hs hfb hx hy hrb
  have hO : Own w _ [_, _, _, _] := Own.start4 w 26 30 26 30 (peerC p) #[.int .i64 q.kind, .int .i64 q.dir, .int .i64 q.train, q32 q.a, q32 q.b, .slice A n c, q64 q.mac] #[.int .i64 0, .int .i64 0, .int .u32 0, .int .u32 0, .int .u32 0, .int .u32 0, .int .i64 0, .int .u32 0, .int .u32 0, .int .u32 0, .int .u32 0, .int .u32 0, .int .u32 0, .bool false, .int .u32 0, .int .u32 0] #[.int .i64 0, .int .i64 0, .int .i64 0, .int .u32 0, .int .u32 0, .slice none 0 0, .int .u64 0]
  have hcp0 := fun i => (hO.b0.cell i).trans (peer_cell _ i)
  have hcq0 := hO.b1.cell
  go_enter Try.func15, Try.ntmps15
  go_wp2_with (first
    | ((with_reducible refine own_loadg0 hO ?_ _ rfl rfl _ Try.underlying26 rfl (peer_size p) ?_); (· first | rfl | (simp [Region.wanted, yielded]; done)))
    | ((with_reducible refine own_loadg1 hO ?_ _ rfl rfl _ Try.underlying30 rfl (by kernel_rfl) ?_); (· first | rfl | (simp [Region.wanted, yielded]; done)))
    | (go_at_call 32; (with_reducible refine (hf _).mono ?_); rintro e w1 ⟨rfl, hb1⟩; replace hO := hO.grow hb1; have hcp1 := fun i => (hO.b0.cell i).trans (peer_cell _ i); have hcq1 := hO.b1.cell)
    | (go_at_call 29; (with_reducible refine (ht _).mono ?_); rintro e w2 ⟨rfl, hb2⟩; replace hO := hO.grow hb2; have hcp2 := fun i => (hO.b0.cell i).trans (peer_cell _ i); have hcq2 := hO.b1.cell)
    | (go_at_call 36; (with_reducible refine (hr _ (hB.below hO.below)).mono ?_); rintro e w5 ⟨rfl, hb5⟩; replace hO := hO.grow hb5; have hcp5 := fun i => (hO.b0.cell i).trans (peer_cell _ i); have hcq5 := hO.b1.cell)
    | (go_at_call 37; (with_reducible refine (shup_k p p.a q.b _).mono ?_); rintro e w6 ⟨rfl, hb6⟩; replace hO := hO.grow hb6; have hcp6 := fun i => (hO.b0.cell i).trans (peer_cell _ i); have hcq6 := hO.b1.cell)
    | (with_reducible refine own_row0 (peerC (up10 p p.a q.b)) hO rfl _ _ rfl rfl rfl (by kernel_rfl) (by kernel_rfl) (peer_cells (up10 p p.a q.b)) ?_; intro w7 hO7 hz7 hk7; replace hO := hO7; clear hO7 hz7 hk7))
  apply wp_region_lexs [(w.heap.size + 1 + 1, none), (w.heap.size + 1 + 1 + 1, none)]
  case hFl =>
    intro u
    simp only [List.map, fill, Act.put, List.setIfInBounds_toArray, List.set_cons_zero, List.set_cons_succ, Nat.reduceAdd, Nat.zero_add]
    rfl
  case hm => kernel_rfl
  case hB => kernel_rfl
  case hap => kernel_rfl
  refine LexS.is (c := .agg (peerC (up10 p p.a q.b))) ?_ ?_
  · (intro u w' hk hd
     have hbk := hk.blk hO.b0 (by intro o h; simp at h; try omega)
     refine lookedT_want (by first | rfl | simp [Region.wanted, yielded]) ?_
     intro K hK
     exact wp_load_row 26 _ rfl _ rfl 26 _ (0, 0) _ hbk Try.underlying26 rfl (by kernel_rfl) (hK _ _ (Stp.refl _ _) rfl))
  apply LexS.is
  · (intro u w' hk hd
     simp [Waited, Region.binds, Is] at hd
     refine lookedT_want (by first | rfl | simp [Region.wanted, yielded, hd]) ?_
     intro K hK
     have hcp := fun i => ((hk.blk hO.b0 (by intro o h; simp at h; try omega)).cell i).trans (peer_cell (up10 p p.a q.b) i); have hcq := (hk.blk hO.b1 (by intro o h; simp at h; try omega)).cell
     go_wp2_with (fail)
     try simp only [hd] at hK
     refine hK _ _ ?_ rfl
     first | exact Stp.refl _ _ | exact Stp.of_below hb3 _)
  apply LexS.is
  · (intro u w' hk hd
     simp [Waited, Region.binds, Is] at hd
     refine lookedT_want (by first | rfl | simp [Region.wanted, yielded, hd]) ?_
     intro K hK
     have hcp := fun i => ((hk.blk hO.b0 (by intro o h; simp at h; try omega)).cell i).trans (peer_cell (up10 p p.a q.b) i); have hcq := (hk.blk hO.b1 (by intro o h; simp at h; try omega)).cell
     go_wp2_with (fail)
     try simp only [hd] at hK
     refine hK _ _ ?_ rfl
     first | exact Stp.refl _ _ | exact Stp.of_below hb3 _)
  apply LexS.is
  · (intro u w' hk hd
     simp [Waited, Region.binds, Is] at hd
     refine lookedT_want (by first | rfl | simp [Region.wanted, yielded, hd]) ?_
     intro K hK
     have hcp := fun i => ((hk.blk hO.b0 (by intro o h; simp at h; try omega)).cell i).trans (peer_cell (up10 p p.a q.b) i); have hcq := (hk.blk hO.b1 (by intro o h; simp at h; try omega)).cell
     go_wp2_with (fail)
     try simp only [hd] at hK
     refine hK _ _ ?_ rfl
     first | exact Stp.refl _ _ | exact Stp.of_below hb3 _)
  apply LexS.is
  · (intro u w' hk hd
     simp [Waited, Region.binds, Is] at hd
     refine lookedT_want (by first | rfl | simp [Region.wanted, yielded, hd]) ?_
     intro K hK
     have hcp := fun i => ((hk.blk hO.b0 (by intro o h; simp at h; try omega)).cell i).trans (peer_cell (up10 p p.a q.b) i); have hcq := (hk.blk hO.b1 (by intro o h; simp at h; try omega)).cell
     go_wp2_with (fail)
     try simp only [hd] at hK
     refine hK _ _ ?_ rfl
     first | exact Stp.refl _ _ | exact Stp.of_below hb3 _)
  apply LexS.is
  · (intro u w' hk hd
     simp [Waited, Region.binds, Is] at hd
     refine lookedT_want (by first | rfl | simp [Region.wanted, yielded, hd]) ?_
     intro K hK
     have hcp := fun i => ((hk.blk hO.b0 (by intro o h; simp at h; try omega)).cell i).trans (peer_cell (up10 p p.a q.b) i); have hcq := (hk.blk hO.b1 (by intro o h; simp at h; try omega)).cell
     go_wp2_with (fail)
     try simp only [hd] at hK
     refine hK _ _ ?_ rfl
     first | exact Stp.refl _ _ | exact Stp.of_below hb3 _)
  apply LexS.is
  · (intro u w' hk hd
     simp [Waited, Region.binds, Is] at hd
     refine lookedT_want (by first | rfl | simp [Region.wanted, yielded, hd]) ?_
     intro K hK
     have hcp := fun i => ((hk.blk hO.b0 (by intro o h; simp at h; try omega)).cell i).trans (peer_cell (up10 p p.a q.b) i); have hcq := (hk.blk hO.b1 (by intro o h; simp at h; try omega)).cell
     go_wp2_with (fail)
     try simp only [hd] at hK
     refine hK _ _ ?_ rfl
     first | exact Stp.refl _ _ | exact Stp.of_below hb3 _)
  apply LexS.is
  · (intro u w' hk hd
     simp [Waited, Region.binds, Is] at hd
     refine lookedT_want (by first | rfl | simp [Region.wanted, yielded, hd]) ?_
     intro K hK
     have hcp := fun i => ((hk.blk hO.b0 (by intro o h; simp at h; try omega)).cell i).trans (peer_cell (up10 p p.a q.b) i); have hcq := (hk.blk hO.b1 (by intro o h; simp at h; try omega)).cell
     go_wp2_with (fail)
     try simp only [hd] at hK
     refine hK _ _ ?_ rfl
     first | exact Stp.refl _ _ | exact Stp.of_below hb3 _)
  apply LexS.is
  · (intro u w' hk hd
     simp [Waited, Region.binds, Is] at hd
     refine lookedT_want (by first | rfl | simp [Region.wanted, yielded, hd]) ?_
     intro K hK
     have hcp := fun i => ((hk.blk hO.b0 (by intro o h; simp at h; try omega)).cell i).trans (peer_cell (up10 p p.a q.b) i); have hcq := (hk.blk hO.b1 (by intro o h; simp at h; try omega)).cell
     go_wp2_with (fail)
     try simp only [hd] at hK
     refine hK _ _ ?_ rfl
     first | exact Stp.refl _ _ | exact Stp.of_below hb3 _)
  apply LexS.is
  · (intro u w' hk hd
     simp [Waited, Region.binds, Is] at hd
     refine lookedT_want (by first | rfl | simp [Region.wanted, yielded, hd]) ?_
     intro K hK
     have hcp := fun i => ((hk.blk hO.b0 (by intro o h; simp at h; try omega)).cell i).trans (peer_cell (up10 p p.a q.b) i); have hcq := (hk.blk hO.b1 (by intro o h; simp at h; try omega)).cell
     go_wp2_with (fail)
     try simp only [hd] at hK
     refine hK _ _ ?_ rfl
     first | exact Stp.refl _ _ | exact Stp.of_below hb3 _)
  refine LexS.word (fun v _ => ∃ A c, v = .agg (pduC (seal7 (up10 p p.a q.b).base ⟨3, 0, (up10 p p.a q.b).train, (up10 p p.a q.b).a, (up10 p p.a q.b).b, [], 0⟩) A 0 c) ∧ ∀ W, Bytes W A c []) (fun _ _ _ h _ => h) ?_ ?_
  · (intro u w' hk hd
     simp [Waited, Region.binds, Is] at hd
     refine lookedT_want (by first | rfl | simp [Region.wanted, yielded, hd]) ?_
     intro K hK
     go_wp2_with (go_at_call 33; (with_reducible refine (pseal_nil (up10 p p.a q.b).base 3 0 (up10 p p.a q.b).train (up10 p p.a q.b).a (up10 p p.a q.b).b _).mono ?_); rintro e w3 ⟨A3, c3, rfl, hN3, hb3⟩)
     try simp only [hd] at hK
     exact hK _ _ (Stp.of_below hb3 _) (⟨A3, c3, rfl, hN3⟩))
  refine LexS.row (w.heap.size + 1 + 1) 26 _ (peerC (up10 p p.a q.b)) (by simp) hO.b2 (by rfl) 26 _ _ rfl (by kernel_rfl) (peer_cells (up10 p p.a q.b)) ?_ ?_
  · (intro u w' hk hd
     simp [Waited, Region.binds, Is] at hd
     exact ⟨by first | rfl | simp [Region.wanted, yielded, hd], rfl, by simp [Act.eval, hd]⟩)
  refine LexS.rowv (w.heap.size + 1 + 1 + 1) 30 _ (fun cells => ∃ A c, cells = pduC (seal7 (up10 p p.a q.b).base ⟨3, 0, (up10 p p.a q.b).train, (up10 p p.a q.b).a, (up10 p p.a q.b).b, [], 0⟩) A 0 c ∧ ∀ W, Bytes W A c []) (by simp) hO.b3 30 _ _ rfl (by rintro cells ⟨A, c, rfl, _⟩; exact ⟨rfl, pdu_size _ _ _ _, pdu_cells _ _ _ _⟩) ?_ ?_
  · (intro u w' hk hd
     obtain ⟨A9, c9, hd2, hN9⟩ := hd ⟨10, .data⟩ (by simp) rfl _ rfl; exact ⟨by first | rfl | simp [Region.wanted, yielded], rfl, _, ⟨A9, c9, rfl, hN9⟩, by simp [Act.eval, hd2]⟩)
  apply LexS.is
  · (intro u w' hk hd
     simp [Waited, Region.binds, Is] at hd
     refine lookedT_want (by first | rfl | simp [Region.wanted, yielded, hd]) ?_
     intro K hK
     skip
     go_wp2_with (fail)
     try simp only [hd] at hK
     refine hK _ _ ?_ rfl
     first | exact Stp.refl _ _ | exact Stp.of_below hb3 _)
  refine LexS.nil (by simp [W2.fit, Apart2]) ?_
  intro u w7 hk hd
  simp only [List.nil_append, List.cons_append] at hd
  have h5 : Blk w7 (w.heap.size + 1 + 1) 26 (peerC (up10 p p.a q.b)) := hd 11 _ rfl
  obtain ⟨cs6, ⟨A6, c6, rfl, hN6⟩, h6⟩ := hd 12 _ rfl
  have h7 := hd 13 _ rfl
  simp only [Is] at h7
  clear hd
  go_wp2_with fail
  exact bodyPost_ret (results_cct Try.results15 _ _ _ _ _ _ _ _ _ rfl rfl h7 h5 h6 Try.underlying26 rfl (peer_size _) Try.underlying30 rfl (pdu_size _ _ _ _)) rfl (ret_seal w _ (up10 p p.a q.b) p.base _ rfl _ _ hN6 (hO.below.trans (hk.below hO.below.size (by intro k o h; simp at h; omega))))
theorem shconfirm_k (p : Peer10) (q : P7) (A : Option Addr) (n c : Nat) (w : World) (hn : q.body.length = n) (hB : Bytes w A c q.body) (hlen : q.body.length ≤ 2000) : Calls Try.prog 15 #[.agg (peerC p), .agg #[.int .i64 q.kind, .int .i64 q.dir, .int .i64 q.train, q32 q.a, q32 q.b, .slice A n c, q64 q.mac]] w (Ret10 w (confirmP p q) (confirmQ p q) (confirmE p q)) := by
  by_cases h : confirmE p q = 0
  · unfold confirmP confirmQ
    rw [h, if_pos rfl, if_pos rfl]
    have hs : p.side = 0 := by
      by_cases a : p.side = 0
      · exact a
      · simp [confirmE, a] at h
    have hfb : fits10 p q 2 = true := by
      cases a : fits10 p q 2
      · simp [confirmE, a] at h
      · rfl
    have hx : p.state = 1 := by
      by_cases a : p.state = 1
      · exact a
      · simp [confirmE, a, hs, hfb] at h
    have hy : q.a = p.a := by
      by_cases a : q.a = p.a
      · exact a
      · simp [confirmE, a, hs, hfb, hx] at h
    have hrb : right7 p.base q = true := by
      cases a : right7 p.base q
      · simp [confirmE, a, hs, hfb, hx, hy] at h
      · rfl
    exact shconfirm_yes p q A n c w hn hB hlen hs hfb hx hy hrb
  · unfold confirmP confirmQ
    rw [if_neg h, if_neg h]
    exact shconfirm_err p q A n c w hn hB hlen h
end Go.Proofs.Ytnngknmmokajgaa
