/- Ask: the program's and the document's. -/
import Derived.Test.YtnngknmmokajgaaShakeBase
set_option linter.unusedSimpArgs false
set_option linter.unusedVariables false
namespace Go.Proofs.Ytnngknmmokajgaa
open Go.RowKit Go.Shelf

def asked (p : Peer10) (n : BitVec 32) : Peer10 := ⟨p.side, p.train, p.base, 1, n, 0, key0, p.half, p.a2, p.b2⟩
theorem ask_cells (p : Peer10) (n : BitVec 32) : putAt ((((peerC p).setIfInBounds 6 (.int .i64 1)).setIfInBounds 7 (q32 n)).setIfInBounds 8 (.int .u32 0)) 9 [.int .u32 0, .int .u32 0, .int .u32 0, .int .u32 0] = peerC (asked p n) := by kernel_rfl
set_option maxHeartbeats 4000000 in
theorem shask_yes (p : Peer10) (n : BitVec 32) (w : World) (hs : p.side = 0) (hu : numbered10 p = true) : Calls Try.prog 10 #[.agg (peerC p), q32 n] w (Ret10 w (asked p n) ⟨1, 0, p.train, n, 0, [], 0⟩ 0) := by
  have ht := fun W => shtrain_k p W
  have hn := fun W => shnum_k p W
  obtain ⟨hs1, hs2⟩ := side_eq p hs
  rw [hu] at hn
  rw [hs1] at ht
  clear hs hu
  have hO : Own w _ [_, _, _] := Own.start3 w 26 26 30 (peerC p) #[.int .i64 0, .int .i64 0, .int .u32 0, .int .u32 0, .int .u32 0, .int .u32 0, .int .i64 0, .int .u32 0, .int .u32 0, .int .u32 0, .int .u32 0, .int .u32 0, .int .u32 0, .bool false, .int .u32 0, .int .u32 0] #[.int .i64 0, .int .i64 0, .int .i64 0, .int .u32 0, .int .u32 0, .slice none 0 0, .int .u64 0]
  go_enter Try.func10, Try.ntmps10
  go_wp2_with (first
    | ((with_reducible refine own_loadg0 hO ?_ _ rfl rfl _ Try.underlying26 rfl (peer_size p) ?_); (· first | rfl | (simp [Region.wanted, yielded]; done)))
    | (go_at_call 29; (with_reducible refine (ht _).mono ?_); rintro e w1 ⟨rfl, hb1⟩; replace hO := hO.grow hb1)
    | (go_at_call 30; (with_reducible refine (hn _).mono ?_); rintro e w2 ⟨rfl, hb2⟩; replace hO := hO.grow hb2)
    | (with_reducible refine own_cell0 6 (.int .i64 1) hO rfl _ _ _ rfl rfl rfl (by kernel_rfl) (by simp [peerC]) rfl ?_; intro w31 hO31 hz31 hk31; replace hO := hO31; clear hO31 hz31 hk31)
    | (with_reducible refine own_cell0 7 (q32 n) hO rfl _ _ _ rfl rfl rfl (by kernel_rfl) (by simp [peerC]) rfl ?_; intro w32 hO32 hz32 hk32; replace hO := hO32; clear hO32 hz32 hk32)
    | (with_reducible refine own_cell0 8 (.int .u32 0) hO rfl _ _ _ rfl rfl rfl (by kernel_rfl) (by simp [peerC]) rfl ?_; intro w33 hO33 hz33 hk33; replace hO := hO33; clear hO33 hz33 hk33)
    | (with_reducible refine own_mid0 9 (#[.int .u32 0, .int .u32 0, .int .u32 0, .int .u32 0]) hO rfl _ _ _ rfl rfl rfl (by kernel_rfl) (by simp [peerC]) (by simp [Value.oneCell', q32]) ?_; intro w34 hO34 hz34 hk34; replace hO := hO34; clear hO34 hz34 hk34))
  rw [ask_cells] at hO
  apply wp_region_lexs [(w.heap.size + 1, none), (w.heap.size + 1 + 1, none)]
  case hFl =>
    intro u
    simp only [List.map, fill, Act.put, List.setIfInBounds_toArray, List.set_cons_zero, List.set_cons_succ, Nat.reduceAdd, Nat.zero_add]
    rfl
  case hm => kernel_rfl
  case hB => kernel_rfl
  case hap => kernel_rfl
  refine LexS.is (c := .agg (peerC (asked p n))) ?_ ?_
  · (intro u w' hk hd
     have hbk := hk.blk hO.b0 (by intro o h; simp at h; try omega)
     refine lookedT_want (by first | rfl | simp [Region.wanted, yielded]) ?_
     intro K hK
     exact wp_load_row 26 _ rfl _ rfl 26 _ (0, 0) _ hbk Try.underlying26 rfl (by kernel_rfl) (hK _ _ (Stp.refl _ _) rfl))
  apply LexS.is
  · (intro u w' hk hd
     simp [Waited, Region.binds, Is] at hd
     refine lookedT_want (by first | rfl | simp [Region.wanted, yielded, hd]) ?_
     intro K hK
     skip
     go_wp2_with (fail)
     try simp only [hd] at hK
     refine hK _ _ ?_ rfl
     first | exact Stp.refl _ _ | exact Stp.of_below hb3 _)
  apply LexS.is
  · (intro u w' hk hd
     simp [Waited, Region.binds, Is] at hd
     refine lookedT_want (by first | rfl | simp [Region.wanted, yielded, hd]) ?_
     intro K hK
     have hcp := ((hk.blk hO.b0 (by intro o h; simp at h; try omega)).cell 1).trans (peer_train (asked p n))
     go_wp2_with (fail)
     try simp only [hd] at hK
     refine hK _ _ ?_ rfl
     first | exact Stp.refl _ _ | exact Stp.of_below hb3 _)
  apply LexS.is
  · (intro u w' hk hd
     simp [Waited, Region.binds, Is] at hd
     refine lookedT_want (by first | rfl | simp [Region.wanted, yielded, hd]) ?_
     intro K hK
     skip
     go_wp2_with (fail)
     try simp only [hd] at hK
     refine hK _ _ ?_ rfl
     first | exact Stp.refl _ _ | exact Stp.of_below hb3 _)
  apply LexS.is
  · (intro u w' hk hd
     simp [Waited, Region.binds, Is] at hd
     refine lookedT_want (by first | rfl | simp [Region.wanted, yielded, hd]) ?_
     intro K hK
     skip
     go_wp2_with (fail)
     try simp only [hd] at hK
     refine hK _ _ ?_ rfl
     first | exact Stp.refl _ _ | exact Stp.of_below hb3 _)
  refine LexS.row (w.heap.size + 1) 26 _ (peerC (asked p n)) (by simp) hO.b1 (by rfl) 26 _ _ rfl (by kernel_rfl) (peer_cells (asked p n)) ?_ ?_
  · (intro u w' hk hd
     simp [Waited, Region.binds, Is] at hd
     exact ⟨by first | rfl | simp [Region.wanted, yielded, hd], rfl, by simp [Act.eval, hd]⟩)
  refine LexS.row (w.heap.size + 1 + 1) 30 _ (#[.int .i64 1, .int .i64 0, .int .i64 (asked p n).train, q32 n, .int .u32 0, .slice none 0 0, .int .u64 0]) (by simp) hO.b2 (by rfl) 30 _ _ rfl (by kernel_rfl) (by simp [Value.oneCell', q32, q64]) ?_ ?_
  · (intro u w' hk hd
     simp [Waited, Region.binds, Is] at hd
     exact ⟨by first | rfl | simp [Region.wanted, yielded, hd], rfl, by simp [Act.eval, hd]⟩)
  apply LexS.is
  · (intro u w' hk hd
     simp [Waited, Region.binds, Is] at hd
     refine lookedT_want (by first | rfl | simp [Region.wanted, yielded, hd]) ?_
     intro K hK
     skip
     go_wp2_with (fail)
     try simp only [hd] at hK
     refine hK _ _ ?_ rfl
     first | exact Stp.refl _ _ | exact Stp.of_below hb3 _)
  refine LexS.nil (by simp [W2.fit, Apart2]) ?_
  intro u w7 hk hd
  simp only [List.nil_append, List.cons_append] at hd
  have h5 : Blk w7 (w.heap.size + 1) 26 (peerC (asked p n)) := hd 5 _ rfl
  have h6 : Blk w7 (w.heap.size + 1 + 1) 30 #[.int .i64 1, .int .i64 0, .int .i64 (asked p n).train, q32 n, .int .u32 0, .slice none 0 0, .int .u64 0] := hd 6 _ rfl
  have h7 := hd 7 _ rfl
  simp only [Is] at h7
  clear hd
  go_wp2_with fail
  exact bodyPost_ret (results_cct Try.results10 _ _ _ _ _ _ _ _ _ rfl rfl h7 h5 h6 Try.underlying26 rfl (peer_size _) Try.underlying30 rfl (by kernel_rfl)) rfl ⟨none, 0, rfl, Bytes.nil _, hO.below.trans (hk.below hO.below.size (by intro k o h; simp at h; omega))⟩
set_option maxHeartbeats 4000000 in
theorem shask_no (p : Peer10) (n : BitVec 32) (w : World) (h : ¬ (p.side = 0 ∧ numbered10 p = true)) : Calls Try.prog 10 #[.agg (peerC p), q32 n] w (Ret10 w Peer10.none_ P7.none_ 1) := by
  have ht := fun W => shtrain_k p W
  have hn := fun W => shnum_k p W
  by_cases hs : p.side = 0
  · obtain ⟨hs1, hs2⟩ := side_eq p hs
    have hu : numbered10 p = false := by
      cases hq : numbered10 p
      · rfl
      · exact absurd ⟨hs, hq⟩ h
    rw [hu] at hn
    rw [hs1] at ht
    clear hs hu h
    have hO : Own w _ [_, _, _] := Own.start3 w 26 26 30 (peerC p) #[.int .i64 0, .int .i64 0, .int .u32 0, .int .u32 0, .int .u32 0, .int .u32 0, .int .i64 0, .int .u32 0, .int .u32 0, .int .u32 0, .int .u32 0, .int .u32 0, .int .u32 0, .bool false, .int .u32 0, .int .u32 0] #[.int .i64 0, .int .i64 0, .int .i64 0, .int .u32 0, .int .u32 0, .slice none 0 0, .int .u64 0]
    go_enter Try.func10, Try.ntmps10
    go_wp2_with (first
      | ((with_reducible refine own_loadg0 hO ?_ _ rfl rfl _ Try.underlying26 rfl (peer_size p) ?_); (· first | rfl | (simp [Region.wanted, yielded]; done)))
      | (go_at_call 29; (with_reducible refine (ht _).mono ?_); rintro e w1 ⟨rfl, hb1⟩; replace hO := hO.grow hb1)
      | (go_at_call 30; (with_reducible refine (hn _).mono ?_); rintro e w2 ⟨rfl, hb2⟩; replace hO := hO.grow hb2)
      | (with_reducible refine own_row1 (#[.int .i64 0, .int .i64 0, .int .u32 0, .int .u32 0, .int .u32 0, .int .u32 0, .int .i64 0, .int .u32 0, .int .u32 0, .int .u32 0, .int .u32 0, .int .u32 0, .int .u32 0, .bool false, .int .u32 0, .int .u32 0]) hO rfl _ _ rfl rfl rfl (by kernel_rfl) (by kernel_rfl) (by simp [Value.oneCell', q32, q64]) ?_; intro w41 hO41 hz41 hk41; replace hO := hO41; clear hO41 hz41 hk41)
      | (with_reducible refine own_row2 (#[.int .i64 0, .int .i64 0, .int .i64 0, .int .u32 0, .int .u32 0, .slice none 0 0, .int .u64 0]) hO rfl _ _ rfl rfl rfl (by kernel_rfl) (by kernel_rfl) (by simp [Value.oneCell', q32, q64]) ?_; intro w42 hO42 hz42 hk42; replace hO := hO42; clear hO42 hz42 hk42))
    exact bodyPost_ret (results_cct Try.results10 _ _ _ _ _ _ _ _ _ rfl rfl rfl hO.b1 hO.b2 Try.underlying26 rfl (by kernel_rfl) Try.underlying30 rfl (by kernel_rfl)) rfl (ret_none _ _ _ hO.below)
  · obtain ⟨hs1, hs2⟩ := side_ne p hs
    generalize numbered10 p = nb at *
    rw [hs1] at ht
    clear hs h
    cases nb with
    | true =>
      have hO : Own w _ [_, _, _] := Own.start3 w 26 26 30 (peerC p) #[.int .i64 0, .int .i64 0, .int .u32 0, .int .u32 0, .int .u32 0, .int .u32 0, .int .i64 0, .int .u32 0, .int .u32 0, .int .u32 0, .int .u32 0, .int .u32 0, .int .u32 0, .bool false, .int .u32 0, .int .u32 0] #[.int .i64 0, .int .i64 0, .int .i64 0, .int .u32 0, .int .u32 0, .slice none 0 0, .int .u64 0]
      go_enter Try.func10, Try.ntmps10
      go_wp2_with (first
        | ((with_reducible refine own_loadg0 hO ?_ _ rfl rfl _ Try.underlying26 rfl (peer_size p) ?_); (· first | rfl | (simp [Region.wanted, yielded]; done)))
        | (go_at_call 29; (with_reducible refine (ht _).mono ?_); rintro e w1 ⟨rfl, hb1⟩; replace hO := hO.grow hb1)
        | (go_at_call 30; (with_reducible refine (hn _).mono ?_); rintro e w2 ⟨rfl, hb2⟩; replace hO := hO.grow hb2)
        | (with_reducible refine own_row1 (#[.int .i64 0, .int .i64 0, .int .u32 0, .int .u32 0, .int .u32 0, .int .u32 0, .int .i64 0, .int .u32 0, .int .u32 0, .int .u32 0, .int .u32 0, .int .u32 0, .int .u32 0, .bool false, .int .u32 0, .int .u32 0]) hO rfl _ _ rfl rfl rfl (by kernel_rfl) (by kernel_rfl) (by simp [Value.oneCell', q32, q64]) ?_; intro w41 hO41 hz41 hk41; replace hO := hO41; clear hO41 hz41 hk41)
        | (with_reducible refine own_row2 (#[.int .i64 0, .int .i64 0, .int .i64 0, .int .u32 0, .int .u32 0, .slice none 0 0, .int .u64 0]) hO rfl _ _ rfl rfl rfl (by kernel_rfl) (by kernel_rfl) (by simp [Value.oneCell', q32, q64]) ?_; intro w42 hO42 hz42 hk42; replace hO := hO42; clear hO42 hz42 hk42))
      exact bodyPost_ret (results_cct Try.results10 _ _ _ _ _ _ _ _ _ rfl rfl rfl hO.b1 hO.b2 Try.underlying26 rfl (by kernel_rfl) Try.underlying30 rfl (by kernel_rfl)) rfl (ret_none _ _ _ hO.below)
    | false =>
      have hO : Own w _ [_, _, _] := Own.start3 w 26 26 30 (peerC p) #[.int .i64 0, .int .i64 0, .int .u32 0, .int .u32 0, .int .u32 0, .int .u32 0, .int .i64 0, .int .u32 0, .int .u32 0, .int .u32 0, .int .u32 0, .int .u32 0, .int .u32 0, .bool false, .int .u32 0, .int .u32 0] #[.int .i64 0, .int .i64 0, .int .i64 0, .int .u32 0, .int .u32 0, .slice none 0 0, .int .u64 0]
      go_enter Try.func10, Try.ntmps10
      go_wp2_with (first
        | ((with_reducible refine own_loadg0 hO ?_ _ rfl rfl _ Try.underlying26 rfl (peer_size p) ?_); (· first | rfl | (simp [Region.wanted, yielded]; done)))
        | (go_at_call 29; (with_reducible refine (ht _).mono ?_); rintro e w1 ⟨rfl, hb1⟩; replace hO := hO.grow hb1)
        | (go_at_call 30; (with_reducible refine (hn _).mono ?_); rintro e w2 ⟨rfl, hb2⟩; replace hO := hO.grow hb2)
        | (with_reducible refine own_row1 (#[.int .i64 0, .int .i64 0, .int .u32 0, .int .u32 0, .int .u32 0, .int .u32 0, .int .i64 0, .int .u32 0, .int .u32 0, .int .u32 0, .int .u32 0, .int .u32 0, .int .u32 0, .bool false, .int .u32 0, .int .u32 0]) hO rfl _ _ rfl rfl rfl (by kernel_rfl) (by kernel_rfl) (by simp [Value.oneCell', q32, q64]) ?_; intro w41 hO41 hz41 hk41; replace hO := hO41; clear hO41 hz41 hk41)
        | (with_reducible refine own_row2 (#[.int .i64 0, .int .i64 0, .int .i64 0, .int .u32 0, .int .u32 0, .slice none 0 0, .int .u64 0]) hO rfl _ _ rfl rfl rfl (by kernel_rfl) (by kernel_rfl) (by simp [Value.oneCell', q32, q64]) ?_; intro w42 hO42 hz42 hk42; replace hO := hO42; clear hO42 hz42 hk42))
      exact bodyPost_ret (results_cct Try.results10 _ _ _ _ _ _ _ _ _ rfl rfl rfl hO.b1 hO.b2 Try.underlying26 rfl (by kernel_rfl) Try.underlying30 rfl (by kernel_rfl)) rfl (ret_none _ _ _ hO.below)
theorem shask_k (p : Peer10) (n : BitVec 32) (w : World) : Calls Try.prog 10 #[.agg (peerC p), q32 n] w (Ret10 w (askP p n) (askQ p n) (askE p)) := by
  by_cases h : p.side = 0 ∧ numbered10 p = true
  · have e : askE p = 0 := by unfold askE; rw [if_pos h]
    unfold askP askQ
    rw [e, if_pos rfl, if_pos rfl]
    exact shask_yes p n w h.1 h.2
  · have e : askE p = 1 := by unfold askE; rw [if_neg h]
    unfold askP askQ
    rw [e, if_neg (by decide), if_neg (by decide)]
    exact shask_no p n w h
set_option maxHeartbeats 4000000 in
theorem rshask_yes (p : Peer10) (n : BitVec 32) (w : World) (hs : p.side = 0) (hu : numbered10 p = true) : Calls Try.prog 11 #[.agg (peerC p), q32 n] w (Ret10 w (asked p n) ⟨1, 0, p.train, n, 0, [], 0⟩ 0) := by
  have hn := fun W => rshnum_k p W
  obtain ⟨hs1, hs2⟩ := side_eq p hs
  rw [hu] at hn
  clear hs hu
  have hO : Own w _ [_, _, _] := Own.start3 w 26 26 30 (peerC p) #[.int .i64 0, .int .i64 0, .int .u32 0, .int .u32 0, .int .u32 0, .int .u32 0, .int .i64 0, .int .u32 0, .int .u32 0, .int .u32 0, .int .u32 0, .int .u32 0, .int .u32 0, .bool false, .int .u32 0, .int .u32 0] #[.int .i64 0, .int .i64 0, .int .i64 0, .int .u32 0, .int .u32 0, .slice none 0 0, .int .u64 0]
  go_enter Try.func11, Try.ntmps11
  go_wp2_with (first
    | ((with_reducible refine own_loadg0 hO ?_ _ rfl rfl _ Try.underlying26 rfl (peer_size p) ?_); (· first | rfl | (simp [Region.wanted, yielded]; done)))
    | (go_at_call 31; (with_reducible refine (hn _).mono ?_); rintro e w1 ⟨rfl, hb1⟩; replace hO := hO.grow hb1; have hcs := (hO.b0.cell 0).trans (peer_side p))
    | (with_reducible refine own_cell0 6 (.int .i64 1) hO rfl _ _ _ rfl rfl rfl (by kernel_rfl) (by simp [peerC]) rfl ?_; intro w31 hO31 hz31 hk31; replace hO := hO31; clear hO31 hz31 hk31)
    | (with_reducible refine own_cell0 7 (q32 n) hO rfl _ _ _ rfl rfl rfl (by kernel_rfl) (by simp [peerC]) rfl ?_; intro w32 hO32 hz32 hk32; replace hO := hO32; clear hO32 hz32 hk32)
    | (with_reducible refine own_cell0 8 (.int .u32 0) hO rfl _ _ _ rfl rfl rfl (by kernel_rfl) (by simp [peerC]) rfl ?_; intro w33 hO33 hz33 hk33; replace hO := hO33; clear hO33 hz33 hk33)
    | (with_reducible refine own_mid0 9 (#[.int .u32 0, .int .u32 0, .int .u32 0, .int .u32 0]) hO rfl _ _ _ rfl rfl rfl (by kernel_rfl) (by simp [peerC]) (by simp [Value.oneCell', q32]) ?_; intro w34 hO34 hz34 hk34; replace hO := hO34; clear hO34 hz34 hk34))
  rw [ask_cells] at hO
  apply wp_region_lexs [(w.heap.size + 1, none), (w.heap.size + 1 + 1, none)]
  case hFl =>
    intro u
    simp only [List.map, fill, Act.put, List.setIfInBounds_toArray, List.set_cons_zero, List.set_cons_succ, Nat.reduceAdd, Nat.zero_add]
    rfl
  case hm => kernel_rfl
  case hB => kernel_rfl
  case hap => kernel_rfl
  refine LexS.is (c := .agg (peerC (asked p n))) ?_ ?_
  · (intro u w' hk hd
     have hbk := hk.blk hO.b0 (by intro o h; simp at h; try omega)
     refine lookedT_want (by first | rfl | simp [Region.wanted, yielded]) ?_
     intro K hK
     exact wp_load_row 26 _ rfl _ rfl 26 _ (0, 0) _ hbk Try.underlying26 rfl (by kernel_rfl) (hK _ _ (Stp.refl _ _) rfl))
  apply LexS.is
  · (intro u w' hk hd
     simp [Waited, Region.binds, Is] at hd
     refine lookedT_want (by first | rfl | simp [Region.wanted, yielded, hd]) ?_
     intro K hK
     skip
     go_wp2_with (fail)
     try simp only [hd] at hK
     refine hK _ _ ?_ rfl
     first | exact Stp.refl _ _ | exact Stp.of_below hb3 _)
  apply LexS.is
  · (intro u w' hk hd
     simp [Waited, Region.binds, Is] at hd
     refine lookedT_want (by first | rfl | simp [Region.wanted, yielded, hd]) ?_
     intro K hK
     have hcp := ((hk.blk hO.b0 (by intro o h; simp at h; try omega)).cell 1).trans (peer_train (asked p n))
     go_wp2_with (fail)
     try simp only [hd] at hK
     refine hK _ _ ?_ rfl
     first | exact Stp.refl _ _ | exact Stp.of_below hb3 _)
  apply LexS.is
  · (intro u w' hk hd
     simp [Waited, Region.binds, Is] at hd
     refine lookedT_want (by first | rfl | simp [Region.wanted, yielded, hd]) ?_
     intro K hK
     skip
     go_wp2_with (fail)
     try simp only [hd] at hK
     refine hK _ _ ?_ rfl
     first | exact Stp.refl _ _ | exact Stp.of_below hb3 _)
  apply LexS.is
  · (intro u w' hk hd
     simp [Waited, Region.binds, Is] at hd
     refine lookedT_want (by first | rfl | simp [Region.wanted, yielded, hd]) ?_
     intro K hK
     skip
     go_wp2_with (fail)
     try simp only [hd] at hK
     refine hK _ _ ?_ rfl
     first | exact Stp.refl _ _ | exact Stp.of_below hb3 _)
  refine LexS.row (w.heap.size + 1) 26 _ (peerC (asked p n)) (by simp) hO.b1 (by rfl) 26 _ _ rfl (by kernel_rfl) (peer_cells (asked p n)) ?_ ?_
  · (intro u w' hk hd
     simp [Waited, Region.binds, Is] at hd
     exact ⟨by first | rfl | simp [Region.wanted, yielded, hd], rfl, by simp [Act.eval, hd]⟩)
  refine LexS.row (w.heap.size + 1 + 1) 30 _ (#[.int .i64 1, .int .i64 0, .int .i64 (asked p n).train, q32 n, .int .u32 0, .slice none 0 0, .int .u64 0]) (by simp) hO.b2 (by rfl) 30 _ _ rfl (by kernel_rfl) (by simp [Value.oneCell', q32, q64]) ?_ ?_
  · (intro u w' hk hd
     simp [Waited, Region.binds, Is] at hd
     exact ⟨by first | rfl | simp [Region.wanted, yielded, hd], rfl, by simp [Act.eval, hd]⟩)
  apply LexS.is
  · (intro u w' hk hd
     simp [Waited, Region.binds, Is] at hd
     refine lookedT_want (by first | rfl | simp [Region.wanted, yielded, hd]) ?_
     intro K hK
     skip
     go_wp2_with (fail)
     try simp only [hd] at hK
     refine hK _ _ ?_ rfl
     first | exact Stp.refl _ _ | exact Stp.of_below hb3 _)
  refine LexS.nil (by simp [W2.fit, Apart2]) ?_
  intro u w7 hk hd
  simp only [List.nil_append, List.cons_append] at hd
  have h5 : Blk w7 (w.heap.size + 1) 26 (peerC (asked p n)) := hd 5 _ rfl
  have h6 : Blk w7 (w.heap.size + 1 + 1) 30 #[.int .i64 1, .int .i64 0, .int .i64 (asked p n).train, q32 n, .int .u32 0, .slice none 0 0, .int .u64 0] := hd 6 _ rfl
  have h7 := hd 7 _ rfl
  simp only [Is] at h7
  clear hd
  go_wp2_with fail
  exact bodyPost_ret (results_cct Try.results11 _ _ _ _ _ _ _ _ _ rfl rfl h7 h5 h6 Try.underlying26 rfl (peer_size _) Try.underlying30 rfl (by kernel_rfl)) rfl ⟨none, 0, rfl, Bytes.nil _, hO.below.trans (hk.below hO.below.size (by intro k o h; simp at h; omega))⟩
set_option maxHeartbeats 4000000 in
theorem rshask_no (p : Peer10) (n : BitVec 32) (w : World) (h : ¬ (p.side = 0 ∧ numbered10 p = true)) : Calls Try.prog 11 #[.agg (peerC p), q32 n] w (Ret10 w Peer10.none_ P7.none_ 1) := by
  have hn := fun W => rshnum_k p W
  by_cases hs : p.side = 0
  · obtain ⟨hs1, hs2⟩ := side_eq p hs
    have hu : numbered10 p = false := by
      cases hq : numbered10 p
      · rfl
      · exact absurd ⟨hs, hq⟩ h
    rw [hu] at hn
    skip
    clear hs hu h
    have hO : Own w _ [_, _, _] := Own.start3 w 26 26 30 (peerC p) #[.int .i64 0, .int .i64 0, .int .u32 0, .int .u32 0, .int .u32 0, .int .u32 0, .int .i64 0, .int .u32 0, .int .u32 0, .int .u32 0, .int .u32 0, .int .u32 0, .int .u32 0, .bool false, .int .u32 0, .int .u32 0] #[.int .i64 0, .int .i64 0, .int .i64 0, .int .u32 0, .int .u32 0, .slice none 0 0, .int .u64 0]
    go_enter Try.func11, Try.ntmps11
    go_wp2_with (first
      | ((with_reducible refine own_loadg0 hO ?_ _ rfl rfl _ Try.underlying26 rfl (peer_size p) ?_); (· first | rfl | (simp [Region.wanted, yielded]; done)))
      | (go_at_call 31; (with_reducible refine (hn _).mono ?_); rintro e w1 ⟨rfl, hb1⟩; replace hO := hO.grow hb1; have hcs := (hO.b0.cell 0).trans (peer_side p))
      | (with_reducible refine own_row1 (#[.int .i64 0, .int .i64 0, .int .u32 0, .int .u32 0, .int .u32 0, .int .u32 0, .int .i64 0, .int .u32 0, .int .u32 0, .int .u32 0, .int .u32 0, .int .u32 0, .int .u32 0, .bool false, .int .u32 0, .int .u32 0]) hO rfl _ _ rfl rfl rfl (by kernel_rfl) (by kernel_rfl) (by simp [Value.oneCell', q32, q64]) ?_; intro w41 hO41 hz41 hk41; replace hO := hO41; clear hO41 hz41 hk41)
      | (with_reducible refine own_row2 (#[.int .i64 0, .int .i64 0, .int .i64 0, .int .u32 0, .int .u32 0, .slice none 0 0, .int .u64 0]) hO rfl _ _ rfl rfl rfl (by kernel_rfl) (by kernel_rfl) (by simp [Value.oneCell', q32, q64]) ?_; intro w42 hO42 hz42 hk42; replace hO := hO42; clear hO42 hz42 hk42))
    exact bodyPost_ret (results_cct Try.results11 _ _ _ _ _ _ _ _ _ rfl rfl rfl hO.b1 hO.b2 Try.underlying26 rfl (by kernel_rfl) Try.underlying30 rfl (by kernel_rfl)) rfl (ret_none _ _ _ hO.below)
  · obtain ⟨hs1, hs2⟩ := side_ne p hs
    generalize numbered10 p = nb at *
    skip
    clear hs h
    cases nb with
    | true =>
      have hO : Own w _ [_, _, _] := Own.start3 w 26 26 30 (peerC p) #[.int .i64 0, .int .i64 0, .int .u32 0, .int .u32 0, .int .u32 0, .int .u32 0, .int .i64 0, .int .u32 0, .int .u32 0, .int .u32 0, .int .u32 0, .int .u32 0, .int .u32 0, .bool false, .int .u32 0, .int .u32 0] #[.int .i64 0, .int .i64 0, .int .i64 0, .int .u32 0, .int .u32 0, .slice none 0 0, .int .u64 0]
      go_enter Try.func11, Try.ntmps11
      go_wp2_with (first
        | ((with_reducible refine own_loadg0 hO ?_ _ rfl rfl _ Try.underlying26 rfl (peer_size p) ?_); (· first | rfl | (simp [Region.wanted, yielded]; done)))
        | (go_at_call 31; (with_reducible refine (hn _).mono ?_); rintro e w1 ⟨rfl, hb1⟩; replace hO := hO.grow hb1; have hcs := (hO.b0.cell 0).trans (peer_side p))
        | (with_reducible refine own_row1 (#[.int .i64 0, .int .i64 0, .int .u32 0, .int .u32 0, .int .u32 0, .int .u32 0, .int .i64 0, .int .u32 0, .int .u32 0, .int .u32 0, .int .u32 0, .int .u32 0, .int .u32 0, .bool false, .int .u32 0, .int .u32 0]) hO rfl _ _ rfl rfl rfl (by kernel_rfl) (by kernel_rfl) (by simp [Value.oneCell', q32, q64]) ?_; intro w41 hO41 hz41 hk41; replace hO := hO41; clear hO41 hz41 hk41)
        | (with_reducible refine own_row2 (#[.int .i64 0, .int .i64 0, .int .i64 0, .int .u32 0, .int .u32 0, .slice none 0 0, .int .u64 0]) hO rfl _ _ rfl rfl rfl (by kernel_rfl) (by kernel_rfl) (by simp [Value.oneCell', q32, q64]) ?_; intro w42 hO42 hz42 hk42; replace hO := hO42; clear hO42 hz42 hk42))
      exact bodyPost_ret (results_cct Try.results11 _ _ _ _ _ _ _ _ _ rfl rfl rfl hO.b1 hO.b2 Try.underlying26 rfl (by kernel_rfl) Try.underlying30 rfl (by kernel_rfl)) rfl (ret_none _ _ _ hO.below)
    | false =>
      have hO : Own w _ [_, _, _] := Own.start3 w 26 26 30 (peerC p) #[.int .i64 0, .int .i64 0, .int .u32 0, .int .u32 0, .int .u32 0, .int .u32 0, .int .i64 0, .int .u32 0, .int .u32 0, .int .u32 0, .int .u32 0, .int .u32 0, .int .u32 0, .bool false, .int .u32 0, .int .u32 0] #[.int .i64 0, .int .i64 0, .int .i64 0, .int .u32 0, .int .u32 0, .slice none 0 0, .int .u64 0]
      go_enter Try.func11, Try.ntmps11
      go_wp2_with (first
        | ((with_reducible refine own_loadg0 hO ?_ _ rfl rfl _ Try.underlying26 rfl (peer_size p) ?_); (· first | rfl | (simp [Region.wanted, yielded]; done)))
        | (go_at_call 31; (with_reducible refine (hn _).mono ?_); rintro e w1 ⟨rfl, hb1⟩; replace hO := hO.grow hb1; have hcs := (hO.b0.cell 0).trans (peer_side p))
        | (with_reducible refine own_row1 (#[.int .i64 0, .int .i64 0, .int .u32 0, .int .u32 0, .int .u32 0, .int .u32 0, .int .i64 0, .int .u32 0, .int .u32 0, .int .u32 0, .int .u32 0, .int .u32 0, .int .u32 0, .bool false, .int .u32 0, .int .u32 0]) hO rfl _ _ rfl rfl rfl (by kernel_rfl) (by kernel_rfl) (by simp [Value.oneCell', q32, q64]) ?_; intro w41 hO41 hz41 hk41; replace hO := hO41; clear hO41 hz41 hk41)
        | (with_reducible refine own_row2 (#[.int .i64 0, .int .i64 0, .int .i64 0, .int .u32 0, .int .u32 0, .slice none 0 0, .int .u64 0]) hO rfl _ _ rfl rfl rfl (by kernel_rfl) (by kernel_rfl) (by simp [Value.oneCell', q32, q64]) ?_; intro w42 hO42 hz42 hk42; replace hO := hO42; clear hO42 hz42 hk42))
      exact bodyPost_ret (results_cct Try.results11 _ _ _ _ _ _ _ _ _ rfl rfl rfl hO.b1 hO.b2 Try.underlying26 rfl (by kernel_rfl) Try.underlying30 rfl (by kernel_rfl)) rfl (ret_none _ _ _ hO.below)
theorem rshask_k (p : Peer10) (n : BitVec 32) (w : World) : Calls Try.prog 11 #[.agg (peerC p), q32 n] w (Ret10 w (askP p n) (askQ p n) (askE p)) := by
  by_cases h : p.side = 0 ∧ numbered10 p = true
  · have e : askE p = 0 := by unfold askE; rw [if_pos h]
    unfold askP askQ
    rw [e, if_pos rfl, if_pos rfl]
    exact rshask_yes p n w h.1 h.2
  · have e : askE p = 1 := by unfold askE; rw [if_neg h]
    unfold askP askQ
    rw [e, if_neg (by decide), if_neg (by decide)]
    exact rshask_no p n w h
end Go.Proofs.Ytnngknmmokajgaa
