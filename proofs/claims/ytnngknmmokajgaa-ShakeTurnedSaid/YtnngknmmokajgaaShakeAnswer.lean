/- Answer: the program's. -/
import Derived.Test.YtnngknmmokajgaaShakeSets
set_option linter.unusedSimpArgs false
set_option linter.unusedVariables false
namespace Go.Proofs.Ytnngknmmokajgaa
open Go.RowKit Go.Shelf

def answered (p : Peer10) (q : P7) (b : BitVec 32) : Peer10 := ⟨p.side, p.train, p.base, p.state, p.a, p.b, p.key, true, q.a, b⟩
theorem answer_join (w w2 w6 : World) (p : Peer10) (q : P7) (b : BitVec 32) (hk : Stp [(w.heap.size, some 13), (w.heap.size, some 14), (w.heap.size, some 15)] w2 w6) (hb : Blk w2 w.heap.size 26 (peerC p)) (h13 : AtCell w.heap.size 16 13 26 (.bool true) undef w6) (h14 : AtCell w.heap.size 16 14 26 (q32 q.a) undef w6) (h15 : AtCell w.heap.size 16 15 26 (q32 b) undef w6) : Blk w6 w.heap.size 26 (peerC (answered p q b)) := by
  refine blk_join (n := 16) hk hb _ rfl (by simp) ?_
  intro i hi
  have hi' : i < 16 := hi
  by_cases a : i = 13
  · subst a; exact .inr ⟨_, rfl, h13⟩
  · by_cases b : i = 14
    · subst b; exact .inr ⟨_, rfl, h14⟩
    · by_cases c : i = 15
      · subst c; exact .inr ⟨_, rfl, h15⟩
      · refine .inl ⟨?_, by simp; omega⟩
        clear hi
        match i, hi', a, b, c with
        | 0, _, _, _, _ => rfl
        | 1, _, _, _, _ => rfl
        | 2, _, _, _, _ => rfl
        | 3, _, _, _, _ => rfl
        | 4, _, _, _, _ => rfl
        | 5, _, _, _, _ => rfl
        | 6, _, _, _, _ => rfl
        | 7, _, _, _, _ => rfl
        | 8, _, _, _, _ => rfl
        | 9, _, _, _, _ => rfl
        | 10, _, _, _, _ => rfl
        | 11, _, _, _, _ => rfl
        | 12, _, _, _, _ => rfl
        | k + 13, h, a, b, c => exact absurd h (by omega)
set_option maxHeartbeats 4000000 in
theorem shanswer_no (p : Peer10) (q : P7) (b : BitVec 32) (A : Option Addr) (n c : Nat) (w : World) (hn : q.body.length = n) (hB : Bytes w A c q.body) (hlen : q.body.length ≤ 2000) (h : p.side = 0 ∨ fits10 p q 1 = false) : Calls Try.prog 13 #[.agg (peerC p), .agg #[.int .i64 q.kind, .int .i64 q.dir, .int .i64 q.train, q32 q.a, q32 q.b, .slice A n c, q64 q.mac], q32 b] w (Ret10 w Peer10.none_ P7.none_ 1) := by
  have hf := fun W => shfits_k p q 1 A n c W hn hlen
  have hr := fun W (h : Bytes W A c q.body) => pright_k p.base q A n c W hn.symm h hlen
  have ht := fun W => shtrain_k p W
  clear hr hB
  by_cases hs : p.side = 0
  · obtain ⟨hs1, hs2⟩ := side_eq p hs
    generalize fits10 p q 1 = fb at *
    rw [hs1] at ht
    clear hs h
    cases fb with
    | true =>
      have hO : Own w _ [_, _, _, _] := Own.start4 w 26 30 26 30 (peerC p) #[.int .i64 q.kind, .int .i64 q.dir, .int .i64 q.train, q32 q.a, q32 q.b, .slice A n c, q64 q.mac] #[.int .i64 0, .int .i64 0, .int .u32 0, .int .u32 0, .int .u32 0, .int .u32 0, .int .i64 0, .int .u32 0, .int .u32 0, .int .u32 0, .int .u32 0, .int .u32 0, .int .u32 0, .bool false, .int .u32 0, .int .u32 0] #[.int .i64 0, .int .i64 0, .int .i64 0, .int .u32 0, .int .u32 0, .slice none 0 0, .int .u64 0]
      have hcp0 := fun i => (hO.b0.cell i).trans (peer_cell _ i)
      have hcq0 := hO.b1.cell
      go_enter Try.func13, Try.ntmps13
      go_wp2_with (first
        | ((with_reducible refine own_loadg0 hO ?_ _ rfl rfl _ Try.underlying26 rfl (peer_size p) ?_); (· first | rfl | (simp [Region.wanted, yielded]; done)))
        | ((with_reducible refine own_loadg1 hO ?_ _ rfl rfl _ Try.underlying30 rfl (by kernel_rfl) ?_); (· first | rfl | (simp [Region.wanted, yielded]; done)))
        | (go_at_call 32; (with_reducible refine (hf _).mono ?_); rintro e w1 ⟨rfl, hb1⟩; replace hO := hO.grow hb1; have hcp1 := fun i => (hO.b0.cell i).trans (peer_cell _ i); have hcq1 := hO.b1.cell)
        | (go_at_call 29; (with_reducible refine (ht _).mono ?_); rintro e w2 ⟨rfl, hb2⟩; replace hO := hO.grow hb2; have hcp2 := fun i => (hO.b0.cell i).trans (peer_cell _ i); have hcq2 := hO.b1.cell)
        | (with_reducible refine own_row2 (#[.int .i64 0, .int .i64 0, .int .u32 0, .int .u32 0, .int .u32 0, .int .u32 0, .int .i64 0, .int .u32 0, .int .u32 0, .int .u32 0, .int .u32 0, .int .u32 0, .int .u32 0, .bool false, .int .u32 0, .int .u32 0]) hO rfl _ _ rfl rfl rfl (by kernel_rfl) (by kernel_rfl) (by simp [Value.oneCell', q32, q64]) ?_; intro w41 hO41 hz41 hk41; replace hO := hO41; clear hO41 hz41 hk41)
        | (with_reducible refine own_row3 (#[.int .i64 0, .int .i64 0, .int .i64 0, .int .u32 0, .int .u32 0, .slice none 0 0, .int .u64 0]) hO rfl _ _ rfl rfl rfl (by kernel_rfl) (by kernel_rfl) (by simp [Value.oneCell', q32, q64]) ?_; intro w42 hO42 hz42 hk42; replace hO := hO42; clear hO42 hz42 hk42))
      exact bodyPost_ret (results_cct Try.results13 _ _ _ _ _ _ _ _ _ rfl rfl rfl hO.b2 hO.b3 Try.underlying26 rfl (by kernel_rfl) Try.underlying30 rfl (by kernel_rfl)) rfl (ret_none _ _ _ hO.below)
    | false =>
      have hO : Own w _ [_, _, _, _] := Own.start4 w 26 30 26 30 (peerC p) #[.int .i64 q.kind, .int .i64 q.dir, .int .i64 q.train, q32 q.a, q32 q.b, .slice A n c, q64 q.mac] #[.int .i64 0, .int .i64 0, .int .u32 0, .int .u32 0, .int .u32 0, .int .u32 0, .int .i64 0, .int .u32 0, .int .u32 0, .int .u32 0, .int .u32 0, .int .u32 0, .int .u32 0, .bool false, .int .u32 0, .int .u32 0] #[.int .i64 0, .int .i64 0, .int .i64 0, .int .u32 0, .int .u32 0, .slice none 0 0, .int .u64 0]
      have hcp0 := fun i => (hO.b0.cell i).trans (peer_cell _ i)
      have hcq0 := hO.b1.cell
      go_enter Try.func13, Try.ntmps13
      go_wp2_with (first
        | ((with_reducible refine own_loadg0 hO ?_ _ rfl rfl _ Try.underlying26 rfl (peer_size p) ?_); (· first | rfl | (simp [Region.wanted, yielded]; done)))
        | ((with_reducible refine own_loadg1 hO ?_ _ rfl rfl _ Try.underlying30 rfl (by kernel_rfl) ?_); (· first | rfl | (simp [Region.wanted, yielded]; done)))
        | (go_at_call 32; (with_reducible refine (hf _).mono ?_); rintro e w1 ⟨rfl, hb1⟩; replace hO := hO.grow hb1; have hcp1 := fun i => (hO.b0.cell i).trans (peer_cell _ i); have hcq1 := hO.b1.cell)
        | (go_at_call 29; (with_reducible refine (ht _).mono ?_); rintro e w2 ⟨rfl, hb2⟩; replace hO := hO.grow hb2; have hcp2 := fun i => (hO.b0.cell i).trans (peer_cell _ i); have hcq2 := hO.b1.cell)
        | (with_reducible refine own_row2 (#[.int .i64 0, .int .i64 0, .int .u32 0, .int .u32 0, .int .u32 0, .int .u32 0, .int .i64 0, .int .u32 0, .int .u32 0, .int .u32 0, .int .u32 0, .int .u32 0, .int .u32 0, .bool false, .int .u32 0, .int .u32 0]) hO rfl _ _ rfl rfl rfl (by kernel_rfl) (by kernel_rfl) (by simp [Value.oneCell', q32, q64]) ?_; intro w41 hO41 hz41 hk41; replace hO := hO41; clear hO41 hz41 hk41)
        | (with_reducible refine own_row3 (#[.int .i64 0, .int .i64 0, .int .i64 0, .int .u32 0, .int .u32 0, .slice none 0 0, .int .u64 0]) hO rfl _ _ rfl rfl rfl (by kernel_rfl) (by kernel_rfl) (by simp [Value.oneCell', q32, q64]) ?_; intro w42 hO42 hz42 hk42; replace hO := hO42; clear hO42 hz42 hk42))
      exact bodyPost_ret (results_cct Try.results13 _ _ _ _ _ _ _ _ _ rfl rfl rfl hO.b2 hO.b3 Try.underlying26 rfl (by kernel_rfl) Try.underlying30 rfl (by kernel_rfl)) rfl (ret_none _ _ _ hO.below)
  · obtain ⟨hs1, hs2⟩ := side_ne p hs
    have hfb : fits10 p q 1 = false := by
      rcases h with h | h
      · exact absurd h hs
      · exact h
    rw [hfb] at hf
    rw [hs1] at ht
    clear hs h hfb
    have hO : Own w _ [_, _, _, _] := Own.start4 w 26 30 26 30 (peerC p) #[.int .i64 q.kind, .int .i64 q.dir, .int .i64 q.train, q32 q.a, q32 q.b, .slice A n c, q64 q.mac] #[.int .i64 0, .int .i64 0, .int .u32 0, .int .u32 0, .int .u32 0, .int .u32 0, .int .i64 0, .int .u32 0, .int .u32 0, .int .u32 0, .int .u32 0, .int .u32 0, .int .u32 0, .bool false, .int .u32 0, .int .u32 0] #[.int .i64 0, .int .i64 0, .int .i64 0, .int .u32 0, .int .u32 0, .slice none 0 0, .int .u64 0]
    have hcp0 := fun i => (hO.b0.cell i).trans (peer_cell _ i)
    have hcq0 := hO.b1.cell
    go_enter Try.func13, Try.ntmps13
    go_wp2_with (first
      | ((with_reducible refine own_loadg0 hO ?_ _ rfl rfl _ Try.underlying26 rfl (peer_size p) ?_); (· first | rfl | (simp [Region.wanted, yielded]; done)))
      | ((with_reducible refine own_loadg1 hO ?_ _ rfl rfl _ Try.underlying30 rfl (by kernel_rfl) ?_); (· first | rfl | (simp [Region.wanted, yielded]; done)))
      | (go_at_call 32; (with_reducible refine (hf _).mono ?_); rintro e w1 ⟨rfl, hb1⟩; replace hO := hO.grow hb1; have hcp1 := fun i => (hO.b0.cell i).trans (peer_cell _ i); have hcq1 := hO.b1.cell)
      | (go_at_call 29; (with_reducible refine (ht _).mono ?_); rintro e w2 ⟨rfl, hb2⟩; replace hO := hO.grow hb2; have hcp2 := fun i => (hO.b0.cell i).trans (peer_cell _ i); have hcq2 := hO.b1.cell)
      | (with_reducible refine own_row2 (#[.int .i64 0, .int .i64 0, .int .u32 0, .int .u32 0, .int .u32 0, .int .u32 0, .int .i64 0, .int .u32 0, .int .u32 0, .int .u32 0, .int .u32 0, .int .u32 0, .int .u32 0, .bool false, .int .u32 0, .int .u32 0]) hO rfl _ _ rfl rfl rfl (by kernel_rfl) (by kernel_rfl) (by simp [Value.oneCell', q32, q64]) ?_; intro w41 hO41 hz41 hk41; replace hO := hO41; clear hO41 hz41 hk41)
      | (with_reducible refine own_row3 (#[.int .i64 0, .int .i64 0, .int .i64 0, .int .u32 0, .int .u32 0, .slice none 0 0, .int .u64 0]) hO rfl _ _ rfl rfl rfl (by kernel_rfl) (by kernel_rfl) (by simp [Value.oneCell', q32, q64]) ?_; intro w42 hO42 hz42 hk42; replace hO := hO42; clear hO42 hz42 hk42))
    exact bodyPost_ret (results_cct Try.results13 _ _ _ _ _ _ _ _ _ rfl rfl rfl hO.b2 hO.b3 Try.underlying26 rfl (by kernel_rfl) Try.underlying30 rfl (by kernel_rfl)) rfl (ret_none _ _ _ hO.below)
set_option maxHeartbeats 4000000 in
theorem shanswer_yes (p : Peer10) (q : P7) (b : BitVec 32) (A : Option Addr) (n c : Nat) (w : World) (hn : q.body.length = n) (hB : Bytes w A c q.body) (hlen : q.body.length ≤ 2000) (hs : ¬ p.side = 0) (hfb : fits10 p q 1 = true) : Calls Try.prog 13 #[.agg (peerC p), .agg #[.int .i64 q.kind, .int .i64 q.dir, .int .i64 q.train, q32 q.a, q32 q.b, .slice A n c, q64 q.mac], q32 b] w (Ret10 w (answered p q b) (seal7 p.base ⟨2, 1, p.train, q.a, b, [], 0⟩) 0) := by
  have hf := fun W => shfits_k p q 1 A n c W hn hlen
  have hr := fun W (h : Bytes W A c q.body) => pright_k p.base q A n c W hn.symm h hlen
  have ht := fun W => shtrain_k p W
  clear hr hB
  obtain ⟨hs1, hs2⟩ := side_ne p hs
  rw [hfb] at hf
  rw [hs1] at ht
  clear hs hfb
  have hO : Own w _ [_, _, _, _] := Own.start4 w 26 30 26 30 (peerC p) #[.int .i64 q.kind, .int .i64 q.dir, .int .i64 q.train, q32 q.a, q32 q.b, .slice A n c, q64 q.mac] #[.int .i64 0, .int .i64 0, .int .u32 0, .int .u32 0, .int .u32 0, .int .u32 0, .int .i64 0, .int .u32 0, .int .u32 0, .int .u32 0, .int .u32 0, .int .u32 0, .int .u32 0, .bool false, .int .u32 0, .int .u32 0] #[.int .i64 0, .int .i64 0, .int .i64 0, .int .u32 0, .int .u32 0, .slice none 0 0, .int .u64 0]
  have hcp0 := fun i => (hO.b0.cell i).trans (peer_cell _ i)
  have hcq0 := hO.b1.cell
  go_enter Try.func13, Try.ntmps13
  go_wp2_with (first
    | ((with_reducible refine own_loadg0 hO ?_ _ rfl rfl _ Try.underlying26 rfl (peer_size p) ?_); (· first | rfl | (simp [Region.wanted, yielded]; done)))
    | ((with_reducible refine own_loadg1 hO ?_ _ rfl rfl _ Try.underlying30 rfl (by kernel_rfl) ?_); (· first | rfl | (simp [Region.wanted, yielded]; done)))
    | (go_at_call 32; (with_reducible refine (hf _).mono ?_); rintro e w1 ⟨rfl, hb1⟩; replace hO := hO.grow hb1; have hcp1 := fun i => (hO.b0.cell i).trans (peer_cell _ i); have hcq1 := hO.b1.cell)
    | (go_at_call 29; (with_reducible refine (ht _).mono ?_); rintro e w2 ⟨rfl, hb2⟩; replace hO := hO.grow hb2; have hcp2 := fun i => (hO.b0.cell i).trans (peer_cell _ i); have hcq2 := hO.b1.cell))
  apply wp_region_lexs [(w.heap.size, some 13), (w.heap.size, some 14), (w.heap.size, some 15)]
  case hFl =>
    intro u
    simp only [List.map, fill, Act.put, List.setIfInBounds_toArray, List.set_cons_zero, List.set_cons_succ, Nat.reduceAdd, Nat.zero_add]
    rfl
  case hm => kernel_rfl
  case hB => kernel_rfl
  case hap => kernel_rfl
  apply LexS.is
  · (intro u w' hk hd
     simp [Waited, Region.binds, Is] at hd
     refine lookedT_want (by first | rfl | simp [Region.wanted, yielded, hd]) ?_
     intro K hK
     skip
     go_wp2_with (fail)
     try simp only [hd] at hK
     refine hK _ _ ?_ rfl
     first | exact Stp.refl _ _ | exact Stp.of_below hb3 _)
  apply LexS.is
  · (intro u w' hk hd
     simp [Waited, Region.binds, Is] at hd
     refine lookedT_want (by first | rfl | simp [Region.wanted, yielded, hd]) ?_
     intro K hK
     have hcq := (hk.blk hO.b1 (by intro o h; simp at h; try omega)).cell
     go_wp2_with (fail)
     try simp only [hd] at hK
     refine hK _ _ ?_ rfl
     first | exact Stp.refl _ _ | exact Stp.of_below hb3 _)
  apply LexS.is
  · (intro u w' hk hd
     simp [Waited, Region.binds, Is] at hd
     refine lookedT_want (by first | rfl | simp [Region.wanted, yielded, hd]) ?_
     intro K hK
     skip
     go_wp2_with (fail)
     try simp only [hd] at hK
     refine hK _ _ ?_ rfl
     first | exact Stp.refl _ _ | exact Stp.of_below hb3 _)
  apply LexS.is
  · (intro u w' hk hd
     simp [Waited, Region.binds, Is] at hd
     refine lookedT_want (by first | rfl | simp [Region.wanted, yielded, hd]) ?_
     intro K hK
     skip
     go_wp2_with (fail)
     try simp only [hd] at hK
     refine hK _ _ ?_ rfl
     first | exact Stp.refl _ _ | exact Stp.of_below hb3 _)
  refine LexS.cell w.heap.size 16 13 26 _ (.bool true) (by simp) hO.b0 rfl (by decide) _ _ _ rfl (by kernel_rfl) (by simp [Value.oneCell', q32, q64]) ?_ ?_
  · (intro u w' hk hd
     simp [Waited, Region.binds, Is] at hd
     exact ⟨by first | rfl | simp [Region.wanted, yielded, hd], by first | rfl | simp [Act.eval, hd], by first | rfl | simp [Act.eval, hd]⟩)
  apply LexS.is
  · (intro u w' hk hd
     simp [Waited, Region.binds, Is] at hd
     refine lookedT_want (by first | rfl | simp [Region.wanted, yielded, hd]) ?_
     intro K hK
     skip
     go_wp2_with (fail)
     try simp only [hd] at hK
     refine hK _ _ ?_ rfl
     first | exact Stp.refl _ _ | exact Stp.of_below hb3 _)
  refine LexS.cell w.heap.size 16 14 26 _ (q32 q.a) (by simp) hO.b0 rfl (by decide) _ _ _ rfl (by kernel_rfl) (by simp [Value.oneCell', q32, q64]) ?_ ?_
  · (intro u w' hk hd
     simp [Waited, Region.binds, Is] at hd
     exact ⟨by first | rfl | simp [Region.wanted, yielded, hd], by first | rfl | simp [Act.eval, hd], by first | rfl | simp [Act.eval, hd]⟩)
  apply LexS.is
  · (intro u w' hk hd
     simp [Waited, Region.binds, Is] at hd
     refine lookedT_want (by first | rfl | simp [Region.wanted, yielded, hd]) ?_
     intro K hK
     skip
     go_wp2_with (fail)
     try simp only [hd] at hK
     refine hK _ _ ?_ rfl
     first | exact Stp.refl _ _ | exact Stp.of_below hb3 _)
  refine LexS.cell w.heap.size 16 15 26 _ (q32 b) (by simp) hO.b0 rfl (by decide) _ _ _ rfl (by kernel_rfl) (by simp [Value.oneCell', q32, q64]) ?_ ?_
  · (intro u w' hk hd
     simp [Waited, Region.binds, Is] at hd
     exact ⟨by first | rfl | simp [Region.wanted, yielded, hd], by first | rfl | simp [Act.eval, hd], by first | rfl | simp [Act.eval, hd]⟩)
  refine LexS.nil (by simp [W2.fit, Apart2]) ?_
  intro u w6 hk6 hd
  simp only [List.nil_append, List.cons_append] at hd
  have e4 := hd 4 _ rfl
  have e6 := hd 6 _ rfl
  have e8 := hd 8 _ rfl
  clear hd
  have hbp := answer_join w _ w6 p q b hk6 hO.b0 e4 e6 e8
  have hbq := hk6.blk hO.b1 (by intro o h; simp at h; try omega)
  have hb2 := hk6.blk hO.b2 (by intro o h; simp at h; try omega)
  have hb3 := hk6.blk hO.b3 (by intro o h; simp at h; try omega)
  replace hO : Own w w6 [(w.heap.size, 26, peerC (answered p q b)), (w.heap.size + 1, 30, #[.int .i64 q.kind, .int .i64 q.dir, .int .i64 q.train, q32 q.a, q32 q.b, .slice A n c, q64 q.mac]), (w.heap.size + 1 + 1, 26, #[.int .i64 0, .int .i64 0, .int .u32 0, .int .u32 0, .int .u32 0, .int .u32 0, .int .i64 0, .int .u32 0, .int .u32 0, .int .u32 0, .int .u32 0, .int .u32 0, .int .u32 0, .bool false, .int .u32 0, .int .u32 0]), (w.heap.size + 1 + 1 + 1, 30, #[.int .i64 0, .int .i64 0, .int .i64 0, .int .u32 0, .int .u32 0, .slice none 0 0, .int .u64 0])] := hO.after hk6 (by intro k o h; simp at h; omega) rfl (by
    intro x hx
    simp only [List.mem_cons, List.not_mem_nil, or_false] at hx
    rcases hx with rfl | rfl | rfl | rfl
    · exact hbp
    · exact hbq
    · exact hb2
    · exact hb3)
  clear hbp hbq hb2 hb3 e4 e6 e8 hk6
  go_wp2_with fail
  apply wp_region_lexs [(w.heap.size + 1 + 1, none), (w.heap.size + 1 + 1 + 1, none)]
  case hFl =>
    intro u
    simp only [List.map, fill, Act.put, List.setIfInBounds_toArray, List.set_cons_zero, List.set_cons_succ, Nat.reduceAdd, Nat.zero_add]
    rfl
  case hm => kernel_rfl
  case hB => kernel_rfl
  case hap => kernel_rfl
  refine LexS.is (c := .agg (peerC (answered p q b))) ?_ ?_
  · (intro u w' hk hd
     have hbk := hk.blk hO.b0 (by intro o h; simp at h; try omega)
     refine lookedT_want (by first | rfl | simp [Region.wanted, yielded]) ?_
     intro K hK
     exact wp_load_row 26 _ rfl _ rfl 26 _ (0, 0) _ hbk Try.underlying26 rfl (by kernel_rfl) (hK _ _ (Stp.refl _ _) rfl))
  apply LexS.is
  · (intro u w' hk hd
     simp [Waited, Region.binds, Is] at hd
     refine lookedT_want (by first | rfl | simp [Region.wanted, yielded, hd]) ?_
     intro K hK
     have hcp := fun i => ((hk.blk hO.b0 (by intro o h; simp at h; try omega)).cell i).trans (peer_cell (answered p q b) i); have hcq := (hk.blk hO.b1 (by intro o h; simp at h; try omega)).cell
     go_wp2_with (fail)
     try simp only [hd] at hK
     refine hK _ _ ?_ rfl
     first | exact Stp.refl _ _ | exact Stp.of_below hb3 _)
  apply LexS.is
  · (intro u w' hk hd
     simp [Waited, Region.binds, Is] at hd
     refine lookedT_want (by first | rfl | simp [Region.wanted, yielded, hd]) ?_
     intro K hK
     have hcp := fun i => ((hk.blk hO.b0 (by intro o h; simp at h; try omega)).cell i).trans (peer_cell (answered p q b) i); have hcq := (hk.blk hO.b1 (by intro o h; simp at h; try omega)).cell
     go_wp2_with (fail)
     try simp only [hd] at hK
     refine hK _ _ ?_ rfl
     first | exact Stp.refl _ _ | exact Stp.of_below hb3 _)
  apply LexS.is
  · (intro u w' hk hd
     simp [Waited, Region.binds, Is] at hd
     refine lookedT_want (by first | rfl | simp [Region.wanted, yielded, hd]) ?_
     intro K hK
     have hcp := fun i => ((hk.blk hO.b0 (by intro o h; simp at h; try omega)).cell i).trans (peer_cell (answered p q b) i); have hcq := (hk.blk hO.b1 (by intro o h; simp at h; try omega)).cell
     go_wp2_with (fail)
     try simp only [hd] at hK
     refine hK _ _ ?_ rfl
     first | exact Stp.refl _ _ | exact Stp.of_below hb3 _)
  apply LexS.is
  · (intro u w' hk hd
     simp [Waited, Region.binds, Is] at hd
     refine lookedT_want (by first | rfl | simp [Region.wanted, yielded, hd]) ?_
     intro K hK
     have hcp := fun i => ((hk.blk hO.b0 (by intro o h; simp at h; try omega)).cell i).trans (peer_cell (answered p q b) i); have hcq := (hk.blk hO.b1 (by intro o h; simp at h; try omega)).cell
     go_wp2_with (fail)
     try simp only [hd] at hK
     refine hK _ _ ?_ rfl
     first | exact Stp.refl _ _ | exact Stp.of_below hb3 _)
  apply LexS.is
  · (intro u w' hk hd
     simp [Waited, Region.binds, Is] at hd
     refine lookedT_want (by first | rfl | simp [Region.wanted, yielded, hd]) ?_
     intro K hK
     have hcp := fun i => ((hk.blk hO.b0 (by intro o h; simp at h; try omega)).cell i).trans (peer_cell (answered p q b) i); have hcq := (hk.blk hO.b1 (by intro o h; simp at h; try omega)).cell
     go_wp2_with (fail)
     try simp only [hd] at hK
     refine hK _ _ ?_ rfl
     first | exact Stp.refl _ _ | exact Stp.of_below hb3 _)
  apply LexS.is
  · (intro u w' hk hd
     simp [Waited, Region.binds, Is] at hd
     refine lookedT_want (by first | rfl | simp [Region.wanted, yielded, hd]) ?_
     intro K hK
     have hcp := fun i => ((hk.blk hO.b0 (by intro o h; simp at h; try omega)).cell i).trans (peer_cell (answered p q b) i); have hcq := (hk.blk hO.b1 (by intro o h; simp at h; try omega)).cell
     go_wp2_with (fail)
     try simp only [hd] at hK
     refine hK _ _ ?_ rfl
     first | exact Stp.refl _ _ | exact Stp.of_below hb3 _)
  apply LexS.is
  · (intro u w' hk hd
     simp [Waited, Region.binds, Is] at hd
     refine lookedT_want (by first | rfl | simp [Region.wanted, yielded, hd]) ?_
     intro K hK
     have hcp := fun i => ((hk.blk hO.b0 (by intro o h; simp at h; try omega)).cell i).trans (peer_cell (answered p q b) i); have hcq := (hk.blk hO.b1 (by intro o h; simp at h; try omega)).cell
     go_wp2_with (fail)
     try simp only [hd] at hK
     refine hK _ _ ?_ rfl
     first | exact Stp.refl _ _ | exact Stp.of_below hb3 _)
  apply LexS.is
  · (intro u w' hk hd
     simp [Waited, Region.binds, Is] at hd
     refine lookedT_want (by first | rfl | simp [Region.wanted, yielded, hd]) ?_
     intro K hK
     have hcp := fun i => ((hk.blk hO.b0 (by intro o h; simp at h; try omega)).cell i).trans (peer_cell (answered p q b) i); have hcq := (hk.blk hO.b1 (by intro o h; simp at h; try omega)).cell
     go_wp2_with (fail)
     try simp only [hd] at hK
     refine hK _ _ ?_ rfl
     first | exact Stp.refl _ _ | exact Stp.of_below hb3 _)
  refine LexS.word (fun v _ => ∃ A c, v = .agg (pduC (seal7 (answered p q b).base ⟨2, 1, (answered p q b).train, q.a, b, [], 0⟩) A 0 c) ∧ ∀ W, Bytes W A c []) (fun _ _ _ h _ => h) ?_ ?_
  · (intro u w' hk hd
     simp [Waited, Region.binds, Is] at hd
     refine lookedT_want (by first | rfl | simp [Region.wanted, yielded, hd]) ?_
     intro K hK
     go_wp2_with (go_at_call 33; (with_reducible refine (pseal_nil (answered p q b).base 2 1 (answered p q b).train q.a b _).mono ?_); rintro e w3 ⟨A3, c3, rfl, hN3, hb3⟩)
     try simp only [hd] at hK
     exact hK _ _ (Stp.of_below hb3 _) (⟨A3, c3, rfl, hN3⟩))
  refine LexS.row (w.heap.size + 1 + 1) 26 _ (peerC (answered p q b)) (by simp) hO.b2 (by rfl) 26 _ _ rfl (by kernel_rfl) (peer_cells (answered p q b)) ?_ ?_
  · (intro u w' hk hd
     simp [Waited, Region.binds, Is] at hd
     exact ⟨by first | rfl | simp [Region.wanted, yielded, hd], rfl, by simp [Act.eval, hd]⟩)
  refine LexS.rowv (w.heap.size + 1 + 1 + 1) 30 _ (fun cells => ∃ A c, cells = pduC (seal7 (answered p q b).base ⟨2, 1, (answered p q b).train, q.a, b, [], 0⟩) A 0 c ∧ ∀ W, Bytes W A c []) (by simp) hO.b3 30 _ _ rfl (by rintro cells ⟨A, c, rfl, _⟩; exact ⟨rfl, pdu_size _ _ _ _, pdu_cells _ _ _ _⟩) ?_ ?_
  · (intro u w' hk hd
     obtain ⟨A9, c9, hd2, hN9⟩ := hd ⟨9, .data⟩ (by simp) rfl _ rfl; exact ⟨by first | rfl | simp [Region.wanted, yielded], rfl, _, ⟨A9, c9, rfl, hN9⟩, by simp [Act.eval, hd2]⟩)
  apply LexS.is
  · (intro u w' hk hd
     simp [Waited, Region.binds, Is] at hd
     refine lookedT_want (by first | rfl | simp [Region.wanted, yielded, hd]) ?_
     intro K hK
     skip
     go_wp2_with (fail)
     try simp only [hd] at hK
     refine hK _ _ ?_ rfl
     first | exact Stp.refl _ _ | exact Stp.of_below hb3 _)
  refine LexS.nil (by simp [W2.fit, Apart2]) ?_
  intro u w7 hk hd
  simp only [List.nil_append, List.cons_append] at hd
  have h5 : Blk w7 (w.heap.size + 1 + 1) 26 (peerC (answered p q b)) := hd 10 _ rfl
  obtain ⟨cs6, ⟨A6, c6, rfl, hN6⟩, h6⟩ := hd 11 _ rfl
  have h7 := hd 12 _ rfl
  simp only [Is] at h7
  clear hd
  go_wp2_with fail
  exact bodyPost_ret (results_cct Try.results13 _ _ _ _ _ _ _ _ _ rfl rfl h7 h5 h6 Try.underlying26 rfl (peer_size _) Try.underlying30 rfl (pdu_size _ _ _ _)) rfl (ret_seal w _ (answered p q b) p.base _ rfl _ _ hN6 (hO.below.trans (hk.below hO.below.size (by intro k o h; simp at h; omega))))
theorem shanswer_k (p : Peer10) (q : P7) (b : BitVec 32) (A : Option Addr) (n c : Nat) (w : World) (hn : q.body.length = n) (hB : Bytes w A c q.body) (hlen : q.body.length ≤ 2000) : Calls Try.prog 13 #[.agg (peerC p), .agg #[.int .i64 q.kind, .int .i64 q.dir, .int .i64 q.train, q32 q.a, q32 q.b, .slice A n c, q64 q.mac], q32 b] w (Ret10 w (answerP p q b) (answerQ p q b) (answerE p q)) := by
  by_cases h : p.side = 0 ∨ fits10 p q 1 = false
  · have e : answerE p q = 1 := by unfold answerE; rw [if_pos h]
    unfold answerP answerQ
    rw [e, if_neg (by decide), if_neg (by decide)]
    exact shanswer_no p q b A n c w hn hB hlen h
  · have e : answerE p q = 0 := by unfold answerE; rw [if_neg h]
    unfold answerP answerQ
    rw [e, if_pos rfl, if_pos rfl]
    exact shanswer_yes p q b A n c w hn hB hlen (fun a => h (.inl a)) (by cases hf : fits10 p q 1; exact absurd (.inr hf) h; rfl)
end Go.Proofs.Ytnngknmmokajgaa
