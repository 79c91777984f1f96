/- Answer: the document's. -/
import Derived.Test.YtnngknmmokajgaaShakeAnswer
set_option linter.unusedSimpArgs false
set_option linter.unusedVariables false
namespace Go.Proofs.Ytnngknmmokajgaa
open Go.RowKit Go.Shelf

set_option maxHeartbeats 4000000 in
theorem rshanswer_no (p : Peer10) (q : P7) (b : BitVec 32) (A : Option Addr) (n c : Nat) (w : World) (hn : q.body.length = n) (hB : Bytes w A c q.body) (hlen : q.body.length ≤ 2000) (h : p.side = 0 ∨ fits10 p q 1 = false) : Calls Try.prog 14 #[.agg (peerC p), .agg #[.int .i64 q.kind, .int .i64 q.dir, .int .i64 q.train, q32 q.a, q32 q.b, .slice A n c, q64 q.mac], q32 b] w (Ret10 w Peer10.none_ P7.none_ 1) := by
  have hf := fun W => rshfits_k p q 1 A n c W hn hlen
  have hr := fun W (h : Bytes W A c q.body) => prright_k p.base q A n c W hn.symm h hlen
  clear hr hB
  by_cases hs : p.side = 0
  · obtain ⟨hs1, hs2⟩ := side_eq p hs
    generalize fits10 p q 1 = fb at *
    skip
    clear hs h
    cases fb with
    | true =>
      have hO : Own w _ [_, _, _, _] := Own.start4 w 26 30 26 30 (peerC p) #[.int .i64 q.kind, .int .i64 q.dir, .int .i64 q.train, q32 q.a, q32 q.b, .slice A n c, q64 q.mac] #[.int .i64 0, .int .i64 0, .int .u32 0, .int .u32 0, .int .u32 0, .int .u32 0, .int .i64 0, .int .u32 0, .int .u32 0, .int .u32 0, .int .u32 0, .int .u32 0, .int .u32 0, .bool false, .int .u32 0, .int .u32 0] #[.int .i64 0, .int .i64 0, .int .i64 0, .int .u32 0, .int .u32 0, .slice none 0 0, .int .u64 0]
      have hcp0 := fun i => (hO.b0.cell i).trans (peer_cell _ i)
      have hcq0 := hO.b1.cell
      go_enter Try.func14, Try.ntmps14
      go_wp2_with (first
        | ((with_reducible refine own_loadg0 hO ?_ _ rfl rfl _ Try.underlying26 rfl (peer_size p) ?_); (· first | rfl | (simp [Region.wanted, yielded]; done)))
        | ((with_reducible refine own_loadg1 hO ?_ _ rfl rfl _ Try.underlying30 rfl (by kernel_rfl) ?_); (· first | rfl | (simp [Region.wanted, yielded]; done)))
        | (go_at_call 34; (with_reducible refine (hf _).mono ?_); rintro e w1 ⟨rfl, hb1⟩; replace hO := hO.grow hb1; have hcp1 := fun i => (hO.b0.cell i).trans (peer_cell _ i); have hcq1 := hO.b1.cell)
        | (with_reducible refine own_row2 (#[.int .i64 0, .int .i64 0, .int .u32 0, .int .u32 0, .int .u32 0, .int .u32 0, .int .i64 0, .int .u32 0, .int .u32 0, .int .u32 0, .int .u32 0, .int .u32 0, .int .u32 0, .bool false, .int .u32 0, .int .u32 0]) hO rfl _ _ rfl rfl rfl (by kernel_rfl) (by kernel_rfl) (by simp [Value.oneCell', q32, q64]) ?_; intro w41 hO41 hz41 hk41; replace hO := hO41; clear hO41 hz41 hk41)
        | (with_reducible refine own_row3 (#[.int .i64 0, .int .i64 0, .int .i64 0, .int .u32 0, .int .u32 0, .slice none 0 0, .int .u64 0]) hO rfl _ _ rfl rfl rfl (by kernel_rfl) (by kernel_rfl) (by simp [Value.oneCell', q32, q64]) ?_; intro w42 hO42 hz42 hk42; replace hO := hO42; clear hO42 hz42 hk42))
      exact bodyPost_ret (results_cct Try.results14 _ _ _ _ _ _ _ _ _ rfl rfl rfl hO.b2 hO.b3 Try.underlying26 rfl (by kernel_rfl) Try.underlying30 rfl (by kernel_rfl)) rfl (ret_none _ _ _ hO.below)
    | false =>
      have hO : Own w _ [_, _, _, _] := Own.start4 w 26 30 26 30 (peerC p) #[.int .i64 q.kind, .int .i64 q.dir, .int .i64 q.train, q32 q.a, q32 q.b, .slice A n c, q64 q.mac] #[.int .i64 0, .int .i64 0, .int .u32 0, .int .u32 0, .int .u32 0, .int .u32 0, .int .i64 0, .int .u32 0, .int .u32 0, .int .u32 0, .int .u32 0, .int .u32 0, .int .u32 0, .bool false, .int .u32 0, .int .u32 0] #[.int .i64 0, .int .i64 0, .int .i64 0, .int .u32 0, .int .u32 0, .slice none 0 0, .int .u64 0]
      have hcp0 := fun i => (hO.b0.cell i).trans (peer_cell _ i)
      have hcq0 := hO.b1.cell
      go_enter Try.func14, Try.ntmps14
      go_wp2_with (first
        | ((with_reducible refine own_loadg0 hO ?_ _ rfl rfl _ Try.underlying26 rfl (peer_size p) ?_); (· first | rfl | (simp [Region.wanted, yielded]; done)))
        | ((with_reducible refine own_loadg1 hO ?_ _ rfl rfl _ Try.underlying30 rfl (by kernel_rfl) ?_); (· first | rfl | (simp [Region.wanted, yielded]; done)))
        | (go_at_call 34; (with_reducible refine (hf _).mono ?_); rintro e w1 ⟨rfl, hb1⟩; replace hO := hO.grow hb1; have hcp1 := fun i => (hO.b0.cell i).trans (peer_cell _ i); have hcq1 := hO.b1.cell)
        | (with_reducible refine own_row2 (#[.int .i64 0, .int .i64 0, .int .u32 0, .int .u32 0, .int .u32 0, .int .u32 0, .int .i64 0, .int .u32 0, .int .u32 0, .int .u32 0, .int .u32 0, .int .u32 0, .int .u32 0, .bool false, .int .u32 0, .int .u32 0]) hO rfl _ _ rfl rfl rfl (by kernel_rfl) (by kernel_rfl) (by simp [Value.oneCell', q32, q64]) ?_; intro w41 hO41 hz41 hk41; replace hO := hO41; clear hO41 hz41 hk41)
        | (with_reducible refine own_row3 (#[.int .i64 0, .int .i64 0, .int .i64 0, .int .u32 0, .int .u32 0, .slice none 0 0, .int .u64 0]) hO rfl _ _ rfl rfl rfl (by kernel_rfl) (by kernel_rfl) (by simp [Value.oneCell', q32, q64]) ?_; intro w42 hO42 hz42 hk42; replace hO := hO42; clear hO42 hz42 hk42))
      exact bodyPost_ret (results_cct Try.results14 _ _ _ _ _ _ _ _ _ rfl rfl rfl hO.b2 hO.b3 Try.underlying26 rfl (by kernel_rfl) Try.underlying30 rfl (by kernel_rfl)) rfl (ret_none _ _ _ hO.below)
  · obtain ⟨hs1, hs2⟩ := side_ne p hs
    have hfb : fits10 p q 1 = false := by
      rcases h with h | h
      · exact absurd h hs
      · exact h
    rw [hfb] at hf
    skip
    clear hs h hfb
    have hO : Own w _ [_, _, _, _] := Own.start4 w 26 30 26 30 (peerC p) #[.int .i64 q.kind, .int .i64 q.dir, .int .i64 q.train, q32 q.a, q32 q.b, .slice A n c, q64 q.mac] #[.int .i64 0, .int .i64 0, .int .u32 0, .int .u32 0, .int .u32 0, .int .u32 0, .int .i64 0, .int .u32 0, .int .u32 0, .int .u32 0, .int .u32 0, .int .u32 0, .int .u32 0, .bool false, .int .u32 0, .int .u32 0] #[.int .i64 0, .int .i64 0, .int .i64 0, .int .u32 0, .int .u32 0, .slice none 0 0, .int .u64 0]
    have hcp0 := fun i => (hO.b0.cell i).trans (peer_cell _ i)
    have hcq0 := hO.b1.cell
    go_enter Try.func14, Try.ntmps14
    go_wp2_with (first
      | ((with_reducible refine own_loadg0 hO ?_ _ rfl rfl _ Try.underlying26 rfl (peer_size p) ?_); (· first | rfl | (simp [Region.wanted, yielded]; done)))
      | ((with_reducible refine own_loadg1 hO ?_ _ rfl rfl _ Try.underlying30 rfl (by kernel_rfl) ?_); (· first | rfl | (simp [Region.wanted, yielded]; done)))
      | (go_at_call 34; (with_reducible refine (hf _).mono ?_); rintro e w1 ⟨rfl, hb1⟩; replace hO := hO.grow hb1; have hcp1 := fun i => (hO.b0.cell i).trans (peer_cell _ i); have hcq1 := hO.b1.cell)
      | (with_reducible refine own_row2 (#[.int .i64 0, .int .i64 0, .int .u32 0, .int .u32 0, .int .u32 0, .int .u32 0, .int .i64 0, .int .u32 0, .int .u32 0, .int .u32 0, .int .u32 0, .int .u32 0, .int .u32 0, .bool false, .int .u32 0, .int .u32 0]) hO rfl _ _ rfl rfl rfl (by kernel_rfl) (by kernel_rfl) (by simp [Value.oneCell', q32, q64]) ?_; intro w41 hO41 hz41 hk41; replace hO := hO41; clear hO41 hz41 hk41)
      | (with_reducible refine own_row3 (#[.int .i64 0, .int .i64 0, .int .i64 0, .int .u32 0, .int .u32 0, .slice none 0 0, .int .u64 0]) hO rfl _ _ rfl rfl rfl (by kernel_rfl) (by kernel_rfl) (by simp [Value.oneCell', q32, q64]) ?_; intro w42 hO42 hz42 hk42; replace hO := hO42; clear hO42 hz42 hk42))
    exact bodyPost_ret (results_cct Try.results14 _ _ _ _ _ _ _ _ _ rfl rfl rfl hO.b2 hO.b3 Try.underlying26 rfl (by kernel_rfl) Try.underlying30 rfl (by kernel_rfl)) rfl (ret_none _ _ _ hO.below)
set_option maxHeartbeats 4000000 in
theorem rshanswer_yes (p : Peer10) (q : P7) (b : BitVec 32) (A : Option Addr) (n c : Nat) (w : World) (hn : q.body.length = n) (hB : Bytes w A c q.body) (hlen : q.body.length ≤ 2000) (hs : ¬ p.side = 0) (hfb : fits10 p q 1 = true) : Calls Try.prog 14 #[.agg (peerC p), .agg #[.int .i64 q.kind, .int .i64 q.dir, .int .i64 q.train, q32 q.a, q32 q.b, .slice A n c, q64 q.mac], q32 b] w (Ret10 w (answered p q b) (seal7 p.base ⟨2, 1, p.train, q.a, b, [], 0⟩) 0) := by
  have hf := fun W => rshfits_k p q 1 A n c W hn hlen
  have hr := fun W (h : Bytes W A c q.body) => prright_k p.base q A n c W hn.symm h hlen
  clear hr hB
  obtain ⟨hs1, hs2⟩ := side_ne p hs
  rw [hfb] at hf
  skip
  clear hs hfb
  have hO : Own w _ [_, _, _, _] := Own.start4 w 26 30 26 30 (peerC p) #[.int .i64 q.kind, .int .i64 q.dir, .int .i64 q.train, q32 q.a, q32 q.b, .slice A n c, q64 q.mac] #[.int .i64 0, .int .i64 0, .int .u32 0, .int .u32 0, .int .u32 0, .int .u32 0, .int .i64 0, .int .u32 0, .int .u32 0, .int .u32 0, .int .u32 0, .int .u32 0, .int .u32 0, .bool false, .int .u32 0, .int .u32 0] #[.int .i64 0, .int .i64 0, .int .i64 0, .int .u32 0, .int .u32 0, .slice none 0 0, .int .u64 0]
  have hcp0 := fun i => (hO.b0.cell i).trans (peer_cell _ i)
  have hcq0 := hO.b1.cell
  go_enter Try.func14, Try.ntmps14
  go_wp2_with (first
    | ((with_reducible refine own_loadg0 hO ?_ _ rfl rfl _ Try.underlying26 rfl (peer_size p) ?_); (· first | rfl | (simp [Region.wanted, yielded]; done)))
    | ((with_reducible refine own_loadg1 hO ?_ _ rfl rfl _ Try.underlying30 rfl (by kernel_rfl) ?_); (· first | rfl | (simp [Region.wanted, yielded]; done)))
    | (go_at_call 34; (with_reducible refine (hf _).mono ?_); rintro e w1 ⟨rfl, hb1⟩; replace hO := hO.grow hb1; have hcp1 := fun i => (hO.b0.cell i).trans (peer_cell _ i); have hcq1 := hO.b1.cell)
    | (with_reducible refine own_cell0 13 (.bool true) hO rfl _ _ _ rfl rfl rfl (by kernel_rfl) (by simp [peerC]) rfl ?_; intro w31 hO31 hz31 hk31; replace hO := hO31; clear hO31 hz31 hk31; rw [peer_set13] at hO; have hcp31 := fun i => (hO.b0.cell i).trans (peer_cell _ i); have hcq31 := hO.b1.cell)
    | (with_reducible refine own_cell0 14 (q32 q.a) hO rfl _ _ _ rfl rfl rfl (by kernel_rfl) (by simp [peerC]) rfl ?_; intro w32 hO32 hz32 hk32; replace hO := hO32; clear hO32 hz32 hk32; rw [peer_set14] at hO; have hcp32 := fun i => (hO.b0.cell i).trans (peer_cell _ i); have hcq32 := hO.b1.cell)
    | (with_reducible refine own_cell0 15 (q32 b) hO rfl _ _ _ rfl rfl rfl (by kernel_rfl) (by simp [peerC]) rfl ?_; intro w33 hO33 hz33 hk33; replace hO := hO33; clear hO33 hz33 hk33; rw [peer_set15] at hO; have hcp33 := fun i => (hO.b0.cell i).trans (peer_cell _ i); have hcq33 := hO.b1.cell))
  have hz33 := hO.b3.lt
  replace hO := hO.new4 30 #[.int .i64 2, .int .i64 1, .int .i64 (setB2 (setA2 (setHalf p true) q.a) b).train, q32 q.a, q32 b, .slice none 0 0, .int .u64 0]
  apply wp_region_lexs [(w.heap.size + 1 + 1, none), (w.heap.size + 1 + 1 + 1, none)]
  case hFl =>
    intro u
    simp only [List.map, fill, Act.put, List.setIfInBounds_toArray, List.set_cons_zero, List.set_cons_succ, Nat.reduceAdd, Nat.zero_add]
    rfl
  case hm => kernel_rfl
  case hB => kernel_rfl
  case hap => kernel_rfl
  refine LexS.is (c := .agg (peerC (setB2 (setA2 (setHalf p true) q.a) b))) ?_ ?_
  · (intro u w' hk hd
     have hbk := hk.blk hO.b0 (by intro o h; simp at h; try omega)
     refine lookedT_want (by first | rfl | simp [Region.wanted, yielded]) ?_
     intro K hK
     exact wp_load_row 26 _ rfl _ rfl 26 _ (0, 0) _ hbk Try.underlying26 rfl (by kernel_rfl) (hK _ _ (Stp.refl _ _) rfl))
  apply LexS.is
  · (intro u w' hk hd
     simp [Waited, Region.binds, Is] at hd
     refine lookedT_want (by first | rfl | simp [Region.wanted, yielded, hd]) ?_
     intro K hK
     have hcp := fun i => ((hk.blk hO.b0 (by intro o h; simp at h; try omega)).cell i).trans (peer_cell (setB2 (setA2 (setHalf p true) q.a) b) i); have hcq := (hk.blk hO.b1 (by intro o h; simp at h; try omega)).cell
     go_wp2_with (fail)
     try simp only [hd] at hK
     refine hK _ _ ?_ rfl
     first | exact Stp.refl _ _ | exact Stp.of_below hb3 _)
  apply LexS.is
  · (intro u w' hk hd
     simp [Waited, Region.binds, Is] at hd
     refine lookedT_want (by first | rfl | simp [Region.wanted, yielded, hd]) ?_
     intro K hK
     have hcp := fun i => ((hk.blk hO.b0 (by intro o h; simp at h; try omega)).cell i).trans (peer_cell (setB2 (setA2 (setHalf p true) q.a) b) i); have hcq := (hk.blk hO.b1 (by intro o h; simp at h; try omega)).cell
     go_wp2_with (fail)
     try simp only [hd] at hK
     refine hK _ _ ?_ rfl
     first | exact Stp.refl _ _ | exact Stp.of_below hb3 _)
  refine LexS.is (c := .agg (#[.int .i64 2, .int .i64 1, .int .i64 (setB2 (setA2 (setHalf p true) q.a) b).train, q32 q.a, q32 b, .slice none 0 0, .int .u64 0])) ?_ ?_
  · (intro u w' hk hd
     have hbk := hk.blk hO.b4 (by intro o h; simp at h; try omega)
     refine lookedT_want (by first | rfl | simp [Region.wanted, yielded]) ?_
     intro K hK
     exact wp_load_row 30 _ rfl _ rfl 30 _ (0, 0) _ hbk Try.underlying30 rfl (by kernel_rfl) (hK _ _ (Stp.refl _ _) rfl))
  refine LexS.word (fun v _ => ∃ A c, v = .agg (pduC (seal7 (setB2 (setA2 (setHalf p true) q.a) b).base ⟨2, 1, (setB2 (setA2 (setHalf p true) q.a) b).train, q.a, b, [], 0⟩) A 0 c) ∧ ∀ W, Bytes W A c []) (fun _ _ _ h _ => h) ?_ ?_
  · (intro u w' hk hd
     simp [Waited, Region.binds, Is] at hd
     refine lookedT_want (by first | rfl | simp [Region.wanted, yielded, hd]) ?_
     intro K hK
     go_wp2_with (go_at_call 35; (with_reducible refine (rseal_nil (setB2 (setA2 (setHalf p true) q.a) b).base 2 1 (setB2 (setA2 (setHalf p true) q.a) b).train q.a b _).mono ?_); rintro e w3 ⟨A3, c3, rfl, hN3, hb3⟩)
     try simp only [hd] at hK
     exact hK _ _ (Stp.of_below hb3 _) (⟨A3, c3, rfl, hN3⟩))
  refine LexS.row (w.heap.size + 1 + 1) 26 _ (peerC (setB2 (setA2 (setHalf p true) q.a) b)) (by simp) hO.b2 (by rfl) 26 _ _ rfl (by kernel_rfl) (peer_cells (setB2 (setA2 (setHalf p true) q.a) b)) ?_ ?_
  · (intro u w' hk hd
     simp [Waited, Region.binds, Is] at hd
     exact ⟨by first | rfl | simp [Region.wanted, yielded, hd], rfl, by simp [Act.eval, hd]⟩)
  refine LexS.rowv (w.heap.size + 1 + 1 + 1) 30 _ (fun cells => ∃ A c, cells = pduC (seal7 (setB2 (setA2 (setHalf p true) q.a) b).base ⟨2, 1, (setB2 (setA2 (setHalf p true) q.a) b).train, q.a, b, [], 0⟩) A 0 c ∧ ∀ W, Bytes W A c []) (by simp) hO.b3 30 _ _ rfl (by rintro cells ⟨A, c, rfl, _⟩; exact ⟨rfl, pdu_size _ _ _ _, pdu_cells _ _ _ _⟩) ?_ ?_
  · (intro u w' hk hd
     obtain ⟨A9, c9, hd2, hN9⟩ := hd ⟨4, .data⟩ (by simp) rfl _ rfl; exact ⟨by first | rfl | simp [Region.wanted, yielded], rfl, _, ⟨A9, c9, rfl, hN9⟩, by simp [Act.eval, hd2]⟩)
  apply LexS.is
  · (intro u w' hk hd
     simp [Waited, Region.binds, Is] at hd
     refine lookedT_want (by first | rfl | simp [Region.wanted, yielded, hd]) ?_
     intro K hK
     skip
     go_wp2_with (fail)
     try simp only [hd] at hK
     refine hK _ _ ?_ rfl
     first | exact Stp.refl _ _ | exact Stp.of_below hb3 _)
  refine LexS.nil (by simp [W2.fit, Apart2]) ?_
  intro u w7 hk hd
  simp only [List.nil_append, List.cons_append] at hd
  have h5 : Blk w7 (w.heap.size + 1 + 1) 26 (peerC (setB2 (setA2 (setHalf p true) q.a) b)) := hd 5 _ rfl
  obtain ⟨cs6, ⟨A6, c6, rfl, hN6⟩, h6⟩ := hd 6 _ rfl
  have h7 := hd 7 _ rfl
  simp only [Is] at h7
  clear hd
  go_wp2_with fail
  exact bodyPost_ret (results_cct Try.results14 _ _ _ _ _ _ _ _ _ rfl rfl h7 h5 h6 Try.underlying26 rfl (peer_size _) Try.underlying30 rfl (pdu_size _ _ _ _)) rfl (ret_seal w _ (setB2 (setA2 (setHalf p true) q.a) b) p.base _ rfl _ _ hN6 (hO.below.trans (hk.below hO.below.size (by intro k o h; simp at h; omega))))
theorem rshanswer_k (p : Peer10) (q : P7) (b : BitVec 32) (A : Option Addr) (n c : Nat) (w : World) (hn : q.body.length = n) (hB : Bytes w A c q.body) (hlen : q.body.length ≤ 2000) : Calls Try.prog 14 #[.agg (peerC p), .agg #[.int .i64 q.kind, .int .i64 q.dir, .int .i64 q.train, q32 q.a, q32 q.b, .slice A n c, q64 q.mac], q32 b] w (Ret10 w (answerP p q b) (answerQ p q b) (answerE p q)) := by
  by_cases h : p.side = 0 ∨ fits10 p q 1 = false
  · have e : answerE p q = 1 := by unfold answerE; rw [if_pos h]
    unfold answerP answerQ
    rw [e, if_neg (by decide), if_neg (by decide)]
    exact rshanswer_no p q b A n c w hn hB hlen h
  · have e : answerE p q = 0 := by unfold answerE; rw [if_neg h]
    unfold answerP answerQ
    rw [e, if_pos rfl, if_pos rfl]
    exact rshanswer_yes p q b A n c w hn hB hlen (fun a => h (.inl a)) (by cases hf : fits10 p q 1; exact absurd (.inr hf) h; rfl)
end Go.Proofs.Ytnngknmmokajgaa
