/- End: the document's. -/
import Derived.Test.YtnngknmmokajgaaShakeRefData
import Derived.Test.YtnngknmmokajgaaOwnLaw
set_option linter.unusedSimpArgs false
set_option linter.unusedVariables false
namespace Go.Proofs.Ytnngknmmokajgaa
open Go.RowKit Go.Shelf

set_option maxHeartbeats 8000000 in
theorem rshend_k (p : Peer10) (why : UInt8) (w : World) : Calls Try.prog 25 #[.agg (peerC p), q8 why] w (Ret10 w (endP p) (endQ p why) (endE p)) := by
  have hO : Own w _ [_, _, _] := Own.start3 w 26 26 30 (peerC p) #[.int .i64 0, .int .i64 0, .int .u32 0, .int .u32 0, .int .u32 0, .int .u32 0, .int .i64 0, .int .u32 0, .int .u32 0, .int .u32 0, .int .u32 0, .int .u32 0, .int .u32 0, .bool false, .int .u32 0, .int .u32 0] #[.int .i64 0, .int .i64 0, .int .i64 0, .int .u32 0, .int .u32 0, .slice none 0 0, .int .u64 0]
  have hcp := fun i => (hO.b0.cell i).trans (peer_cell p i)
  have hnum := fun W => rshnum_k p W
  have hcl := fun W => rshclosed_k p W
  by_cases hx : p.state = 2
  · have hx1 : (p.state != 2) = false := by simp [hx]
    cases hm : numbered10 p with
    | false =>
      rw [hm] at hnum
      have e0 : endE p = 1 := by unfold endE; rw [if_neg (fun h => h hx), if_pos hm]
      have e1 : endP p = Peer10.none_ := by unfold endP; rw [e0]; rfl
      have e2 : endQ p why = P7.none_ := by unfold endQ; rw [e0]; rfl
      rw [e0, e1, e2]
      clear e0 e1 e2
      go_enter Try.func25, Try.ntmps25
      go_wp2_with (first
        | ((with_reducible refine own_loadg0 hO ?_ _ rfl rfl _ Try.underlying26 rfl (peer_size p) ?_); (· first | rfl | (simp [Region.wanted, yielded]; done)))
        | (go_at_call 31; (with_reducible refine (hnum _).mono ?_); rintro e w1 ⟨rfl, hb1⟩; replace hO := hO.grow hb1; have hcp1 := fun i => (hO.b0.cell i).trans (peer_cell p i))
        | (with_reducible refine own_row1 (#[.int .i64 0, .int .i64 0, .int .u32 0, .int .u32 0, .int .u32 0, .int .u32 0, .int .i64 0, .int .u32 0, .int .u32 0, .int .u32 0, .int .u32 0, .int .u32 0, .int .u32 0, .bool false, .int .u32 0, .int .u32 0]) hO rfl _ _ rfl rfl rfl (by kernel_rfl) (by kernel_rfl) (by simp [Value.oneCell', q32, q64]) ?_; intro w31 hO31 hz31 hk31; replace hO := hO31; clear hO31 hz31 hk31)
        | (with_reducible refine own_row2 (#[.int .i64 0, .int .i64 0, .int .i64 0, .int .u32 0, .int .u32 0, .slice none 0 0, .int .u64 0]) hO rfl _ _ rfl rfl rfl (by kernel_rfl) (by kernel_rfl) (by simp [Value.oneCell', q32, q64]) ?_; intro w32 hO32 hz32 hk32; replace hO := hO32; clear hO32 hz32 hk32))
      exact bodyPost_ret (results_cct Try.results25 _ _ _ _ _ _ _ _ _ rfl rfl rfl hO.b1 hO.b2 Try.underlying26 rfl (by kernel_rfl) Try.underlying30 rfl (by kernel_rfl)) rfl (ret_none _ _ _ hO.below)
    | true =>
      rw [hm] at hnum
      have e0 : endE p = 0 := by unfold endE; rw [if_neg (fun h => h hx), if_neg (by simp [hm])]
      have e1 : endP p = closed10 p := by unfold endP; rw [e0, if_pos rfl]
      have e2 : endQ p why = seal7 p.key ⟨6, dir10 p, p.train, 0, p.b, [why], 0⟩ := by unfold endQ; rw [e0, if_pos rfl]
      rw [e0, e1, e2]
      clear e0 e1 e2 hm
      by_cases hs : p.side = 0
      · have hs1 : (p.side == 0) = true := by simp [hs]
        have hd : dir10 p = 0 := by unfold dir10; simp [hs]
        rw [hd]
        clear hd
        obtain ⟨Q, hQ⟩ : ∃ Q, seal7 p.key ⟨6, 0, p.train, 0, p.b, [why], 0⟩ = Q := ⟨_, rfl⟩
        have hqc : ∀ A c, (#[.int .i64 6, .int .i64 0, .int .i64 p.train, q32 0, q32 p.b, .slice A 1 c, q64 (seal7 p.key ⟨6, 0, p.train, 0, p.b, [why], 0⟩).mac] : Array Value) = pduC Q A 1 c := fun A c => by
          obtain ⟨f1, f2, f3, f4, f5, f6⟩ := seal_fields p.key ⟨6, 0, p.train, 0, p.b, [why], 0⟩
          rw [← hQ]; unfold pduC; rw [f1, f2, f3, f4, f5]
        have hse : ∀ W A c, Bytes W A c [why] → Calls Try.prog 35 #[.agg #[q32 p.key.k0, q32 p.key.k1, q32 p.key.k2, q32 p.key.k3], .agg #[.int .i64 6, .int .i64 0, .int .i64 p.train, .int .u32 0, q32 p.b, .slice A 1 c, .int .u64 0]] W fun e w' => e = .returned (.agg (pduC Q A 1 c)) ∧ Below W.heap.size W w' := fun W A c h => by
          have := rseal_x p.key 6 0 p.train 0 p.b [why] 0 A 1 c W rfl h (by show (1 : Nat) ≤ 2000; decide)
          rw [hqc] at this
          exact this
        have hbd : Q.body = [why] := by rw [← hQ]; exact (seal_fields p.key _).2.2.2.2.2
        rw [hQ]
        clear hQ hqc
        go_enter Try.func25, Try.ntmps25
        go_wp2_with (first
          | ((with_reducible refine own_loadg0 hO ?_ _ rfl rfl _ Try.underlying26 rfl (peer_size p) ?_); (· first | rfl | (simp [Region.wanted, yielded]; done)))
          | (go_at_call 31; (with_reducible refine (hnum _).mono ?_); rintro e w1 ⟨rfl, hb1⟩; replace hO := hO.grow hb1; have hgt := hO.b2.lt; have hcp1 := fun i => (hO.b0.cell i).trans (peer_cell p i))
          | (with_reducible refine own_row4 (#[.int .i64 6, .int .i64 0, .int .i64 p.train, .int .u32 0, q32 p.b, .slice (some ⟨w1.heap.size, 0, none⟩) 1 1, .int .u64 0]) (hO.two3 5 30 #[q8 why] #[.int .i64 0, .int .i64 0, .int .i64 0, .int .u32 0, .int .u32 0, .slice none 0 0, .int .u64 0]) rfl _ _ rfl rfl rfl (by kernel_rfl) (by kernel_rfl) (by simp [Value.oneCell', q32, q64]) ?_; intro w21 hO21 hz21 hk21; replace hO := hO21; clear hO21 hz21 hk21))
        clear hcp hcp1
        apply wp_region_lexs [(w.heap.size + 1, none), (w.heap.size + 1 + 1, none)]
        case hFl =>
          intro u
          simp only [List.map, fill, Act.put, List.setIfInBounds_toArray, List.set_cons_zero, List.set_cons_succ, Nat.reduceAdd, Nat.zero_add]
          rfl
        case hm => kernel_rfl
        case hB => kernel_rfl
        case hap => kernel_rfl
        refine LexS.is (c := .agg (peerC p)) ?_ ?_
        · (intro u w' hk hd
           have hbk := hk.blk hO.b0 (by intro o h; simp at h; try omega)
           refine lookedT_want (by first | rfl | simp [Region.wanted, yielded]) ?_
           intro K hK
           exact wp_load_row 26 _ rfl _ rfl 26 _ (0, 0) _ hbk Try.underlying26 rfl (by kernel_rfl) (hK _ _ (Stp.refl _ _) rfl))
        apply LexS.is
        · (intro u w' hk hd
           simp [Waited, Region.binds, Is] at hd
           refine lookedT_want (by first | rfl | simp [Region.wanted, yielded, hd]) ?_
           intro K hK
           skip
           go_wp2_with ((go_at_call 46; (with_reducible refine (hcl _).mono ?_); rintro e w3 ⟨rfl, hb3⟩))
           try simp only [hd] at hK
           refine hK _ _ ?_ rfl
           first | exact Stp.refl _ _ | exact Stp.of_below hb3 _)
        apply LexS.is
        · (intro u w' hk hd
           simp [Waited, Region.binds, Is] at hd
           refine lookedT_want (by first | rfl | simp [Region.wanted, yielded, hd]) ?_
           intro K hK
           skip
           go_wp2_with (fail)
           try simp only [hd] at hK
           refine hK _ _ ?_ rfl
           first | exact Stp.refl _ _ | exact Stp.of_below hb3 _)
        refine LexS.is (c := .agg #[q32 p.key.k0, q32 p.key.k1, q32 p.key.k2, q32 p.key.k3]) ?_ ?_
        · (intro u w' hk hd
           simp [Waited, Region.binds, Is] at hd
           refine lookedT_want (by first | rfl | simp [Region.wanted, yielded, hd]) ?_
           intro K hK
           have hbk := hk.blk hO.b0 (by intro o h; simp at h; omega)
           refine wp_load_mid 24 _ rfl w.heap.size 9 (by simp [Act.eval, hd]) [q32 p.key.k0, q32 p.key.k1, q32 p.key.k2, q32 p.key.k3] _ (peer_key hbk) Try.underlying24 rfl (by kernel_rfl) ?_
           exact hK _ _ (Stp.refl _ _) rfl)
        refine LexS.is (c := .agg (#[.int .i64 6, .int .i64 0, .int .i64 p.train, .int .u32 0, q32 p.b, .slice (some ⟨w1.heap.size, 0, none⟩) 1 1, .int .u64 0])) ?_ ?_
        · (intro u w' hk hd
           have hbk := hk.blk hO.b4 (by intro o h; simp at h; try omega)
           refine lookedT_want (by first | rfl | simp [Region.wanted, yielded]) ?_
           intro K hK
           exact wp_load_row 30 _ rfl _ rfl 30 _ (0, 0) _ hbk Try.underlying30 rfl (by kernel_rfl) (hK _ _ (Stp.refl _ _) rfl))
        apply LexS.is
        · (intro u w' hk hd
           simp [Waited, Region.binds, Is] at hd
           refine lookedT_want (by first | rfl | simp [Region.wanted, yielded, hd]) ?_
           intro K hK
           have hbs := one_byte (hk.blk hO.b3 (by intro o h; simp at h; omega))
           go_wp2_with ((go_at_call 35; (with_reducible refine (hse _ _ _ hbs).mono ?_); rintro e w3 ⟨rfl, hb3⟩))
           try simp only [hd] at hK
           refine hK _ _ ?_ rfl
           first | exact Stp.refl _ _ | exact Stp.of_below hb3 _)
        refine LexS.row (w.heap.size + 1) 26 _ (peerC (closed10 p)) (by simp) hO.b1 (by rfl) 26 _ _ rfl (by kernel_rfl) (peer_cells (closed10 p)) ?_ ?_
        · (intro u w' hk hd
           simp [Waited, Region.binds, Is] at hd
           exact ⟨by first | rfl | simp [Region.wanted, yielded, hd], rfl, by simp [Act.eval, hd]⟩)
        refine LexS.row (w.heap.size + 1 + 1) 30 _ (pduC Q (some ⟨w1.heap.size, 0, none⟩) 1 1) (by simp) hO.b2 (by rfl) 30 _ _ rfl (by kernel_rfl) (pdu_cells Q (some ⟨w1.heap.size, 0, none⟩) 1 1) ?_ ?_
        · (intro u w' hk hd
           simp [Waited, Region.binds, Is] at hd
           exact ⟨by first | rfl | simp [Region.wanted, yielded, hd], rfl, by simp [Act.eval, hd]⟩)
        apply LexS.is
        · (intro u w' hk hd
           simp [Waited, Region.binds, Is] at hd
           refine lookedT_want (by first | rfl | simp [Region.wanted, yielded, hd]) ?_
           intro K hK
           skip
           go_wp2_with (fail)
           try simp only [hd] at hK
           refine hK _ _ ?_ rfl
           first | exact Stp.refl _ _ | exact Stp.of_below hb3 _)
        refine LexS.nil (by simp [W2.fit, Apart2]) ?_
        intro u w7 hk hd
        simp only [List.nil_append, List.cons_append] at hd
        have h5 : Blk w7 (w.heap.size + 1) 26 (peerC (closed10 p)) := hd 6 _ rfl
        have h6 : Blk w7 (w.heap.size + 1 + 1) 30 (pduC Q (some ⟨w1.heap.size, 0, none⟩) 1 1) := hd 7 _ rfl
        have h7 := hd 8 _ rfl
        simp only [Is] at h7
        clear hd
        go_wp2_with fail
        exact bodyPost_ret (results_cct Try.results25 _ _ _ _ _ _ _ _ _ rfl rfl h7 h5 h6 Try.underlying26 rfl (peer_size _) Try.underlying30 rfl (pdu_size _ _ _ _)) rfl ⟨some ⟨w1.heap.size, 0, none⟩, 1, by rw [hbd]; rfl, by rw [hbd]; exact one_byte (hk.blk hO.b3 (by intro o h; simp at h; omega)), hO.below.trans (hk.below hO.below.size (by intro k o h; simp at h; omega))⟩
      · have hs1 : (p.side == 0) = false := by simp [hs]
        have hd : dir10 p = 1 := by unfold dir10; simp [hs]
        rw [hd]
        clear hd
        obtain ⟨Q, hQ⟩ : ∃ Q, seal7 p.key ⟨6, 1, p.train, 0, p.b, [why], 0⟩ = Q := ⟨_, rfl⟩
        have hqc : ∀ A c, (#[.int .i64 6, .int .i64 1, .int .i64 p.train, q32 0, q32 p.b, .slice A 1 c, q64 (seal7 p.key ⟨6, 1, p.train, 0, p.b, [why], 0⟩).mac] : Array Value) = pduC Q A 1 c := fun A c => by
          obtain ⟨f1, f2, f3, f4, f5, f6⟩ := seal_fields p.key ⟨6, 1, p.train, 0, p.b, [why], 0⟩
          rw [← hQ]; unfold pduC; rw [f1, f2, f3, f4, f5]
        have hse : ∀ W A c, Bytes W A c [why] → Calls Try.prog 35 #[.agg #[q32 p.key.k0, q32 p.key.k1, q32 p.key.k2, q32 p.key.k3], .agg #[.int .i64 6, .int .i64 1, .int .i64 p.train, .int .u32 0, q32 p.b, .slice A 1 c, .int .u64 0]] W fun e w' => e = .returned (.agg (pduC Q A 1 c)) ∧ Below W.heap.size W w' := fun W A c h => by
          have := rseal_x p.key 6 1 p.train 0 p.b [why] 0 A 1 c W rfl h (by show (1 : Nat) ≤ 2000; decide)
          rw [hqc] at this
          exact this
        have hbd : Q.body = [why] := by rw [← hQ]; exact (seal_fields p.key _).2.2.2.2.2
        rw [hQ]
        clear hQ hqc
        go_enter Try.func25, Try.ntmps25
        go_wp2_with (first
          | ((with_reducible refine own_loadg0 hO ?_ _ rfl rfl _ Try.underlying26 rfl (peer_size p) ?_); (· first | rfl | (simp [Region.wanted, yielded]; done)))
          | (go_at_call 31; (with_reducible refine (hnum _).mono ?_); rintro e w1 ⟨rfl, hb1⟩; replace hO := hO.grow hb1; have hgt := hO.b2.lt; have hcp1 := fun i => (hO.b0.cell i).trans (peer_cell p i))
          | (with_reducible refine own_row4 (#[.int .i64 6, .int .i64 1, .int .i64 p.train, .int .u32 0, q32 p.b, .slice (some ⟨w1.heap.size, 0, none⟩) 1 1, .int .u64 0]) (hO.two3 5 30 #[q8 why] #[.int .i64 0, .int .i64 0, .int .i64 0, .int .u32 0, .int .u32 0, .slice none 0 0, .int .u64 0]) rfl _ _ rfl rfl rfl (by kernel_rfl) (by kernel_rfl) (by simp [Value.oneCell', q32, q64]) ?_; intro w21 hO21 hz21 hk21; replace hO := hO21; clear hO21 hz21 hk21))
        clear hcp hcp1
        apply wp_region_lexs [(w.heap.size + 1, none), (w.heap.size + 1 + 1, none)]
        case hFl =>
          intro u
          simp only [List.map, fill, Act.put, List.setIfInBounds_toArray, List.set_cons_zero, List.set_cons_succ, Nat.reduceAdd, Nat.zero_add]
          rfl
        case hm => kernel_rfl
        case hB => kernel_rfl
        case hap => kernel_rfl
        refine LexS.is (c := .agg (peerC p)) ?_ ?_
        · (intro u w' hk hd
           have hbk := hk.blk hO.b0 (by intro o h; simp at h; try omega)
           refine lookedT_want (by first | rfl | simp [Region.wanted, yielded]) ?_
           intro K hK
           exact wp_load_row 26 _ rfl _ rfl 26 _ (0, 0) _ hbk Try.underlying26 rfl (by kernel_rfl) (hK _ _ (Stp.refl _ _) rfl))
        apply LexS.is
        · (intro u w' hk hd
           simp [Waited, Region.binds, Is] at hd
           refine lookedT_want (by first | rfl | simp [Region.wanted, yielded, hd]) ?_
           intro K hK
           skip
           go_wp2_with ((go_at_call 46; (with_reducible refine (hcl _).mono ?_); rintro e w3 ⟨rfl, hb3⟩))
           try simp only [hd] at hK
           refine hK _ _ ?_ rfl
           first | exact Stp.refl _ _ | exact Stp.of_below hb3 _)
        apply LexS.is
        · (intro u w' hk hd
           simp [Waited, Region.binds, Is] at hd
           refine lookedT_want (by first | rfl | simp [Region.wanted, yielded, hd]) ?_
           intro K hK
           skip
           go_wp2_with (fail)
           try simp only [hd] at hK
           refine hK _ _ ?_ rfl
           first | exact Stp.refl _ _ | exact Stp.of_below hb3 _)
        refine LexS.is (c := .agg #[q32 p.key.k0, q32 p.key.k1, q32 p.key.k2, q32 p.key.k3]) ?_ ?_
        · (intro u w' hk hd
           simp [Waited, Region.binds, Is] at hd
           refine lookedT_want (by first | rfl | simp [Region.wanted, yielded, hd]) ?_
           intro K hK
           have hbk := hk.blk hO.b0 (by intro o h; simp at h; omega)
           refine wp_load_mid 24 _ rfl w.heap.size 9 (by simp [Act.eval, hd]) [q32 p.key.k0, q32 p.key.k1, q32 p.key.k2, q32 p.key.k3] _ (peer_key hbk) Try.underlying24 rfl (by kernel_rfl) ?_
           exact hK _ _ (Stp.refl _ _) rfl)
        refine LexS.is (c := .agg (#[.int .i64 6, .int .i64 1, .int .i64 p.train, .int .u32 0, q32 p.b, .slice (some ⟨w1.heap.size, 0, none⟩) 1 1, .int .u64 0])) ?_ ?_
        · (intro u w' hk hd
           have hbk := hk.blk hO.b4 (by intro o h; simp at h; try omega)
           refine lookedT_want (by first | rfl | simp [Region.wanted, yielded]) ?_
           intro K hK
           exact wp_load_row 30 _ rfl _ rfl 30 _ (0, 0) _ hbk Try.underlying30 rfl (by kernel_rfl) (hK _ _ (Stp.refl _ _) rfl))
        apply LexS.is
        · (intro u w' hk hd
           simp [Waited, Region.binds, Is] at hd
           refine lookedT_want (by first | rfl | simp [Region.wanted, yielded, hd]) ?_
           intro K hK
           have hbs := one_byte (hk.blk hO.b3 (by intro o h; simp at h; omega))
           go_wp2_with ((go_at_call 35; (with_reducible refine (hse _ _ _ hbs).mono ?_); rintro e w3 ⟨rfl, hb3⟩))
           try simp only [hd] at hK
           refine hK _ _ ?_ rfl
           first | exact Stp.refl _ _ | exact Stp.of_below hb3 _)
        refine LexS.row (w.heap.size + 1) 26 _ (peerC (closed10 p)) (by simp) hO.b1 (by rfl) 26 _ _ rfl (by kernel_rfl) (peer_cells (closed10 p)) ?_ ?_
        · (intro u w' hk hd
           simp [Waited, Region.binds, Is] at hd
           exact ⟨by first | rfl | simp [Region.wanted, yielded, hd], rfl, by simp [Act.eval, hd]⟩)
        refine LexS.row (w.heap.size + 1 + 1) 30 _ (pduC Q (some ⟨w1.heap.size, 0, none⟩) 1 1) (by simp) hO.b2 (by rfl) 30 _ _ rfl (by kernel_rfl) (pdu_cells Q (some ⟨w1.heap.size, 0, none⟩) 1 1) ?_ ?_
        · (intro u w' hk hd
           simp [Waited, Region.binds, Is] at hd
           exact ⟨by first | rfl | simp [Region.wanted, yielded, hd], rfl, by simp [Act.eval, hd]⟩)
        apply LexS.is
        · (intro u w' hk hd
           simp [Waited, Region.binds, Is] at hd
           refine lookedT_want (by first | rfl | simp [Region.wanted, yielded, hd]) ?_
           intro K hK
           skip
           go_wp2_with (fail)
           try simp only [hd] at hK
           refine hK _ _ ?_ rfl
           first | exact Stp.refl _ _ | exact Stp.of_below hb3 _)
        refine LexS.nil (by simp [W2.fit, Apart2]) ?_
        intro u w7 hk hd
        simp only [List.nil_append, List.cons_append] at hd
        have h5 : Blk w7 (w.heap.size + 1) 26 (peerC (closed10 p)) := hd 6 _ rfl
        have h6 : Blk w7 (w.heap.size + 1 + 1) 30 (pduC Q (some ⟨w1.heap.size, 0, none⟩) 1 1) := hd 7 _ rfl
        have h7 := hd 8 _ rfl
        simp only [Is] at h7
        clear hd
        go_wp2_with fail
        exact bodyPost_ret (results_cct Try.results25 _ _ _ _ _ _ _ _ _ rfl rfl h7 h5 h6 Try.underlying26 rfl (peer_size _) Try.underlying30 rfl (pdu_size _ _ _ _)) rfl ⟨some ⟨w1.heap.size, 0, none⟩, 1, by rw [hbd]; rfl, by rw [hbd]; exact one_byte (hk.blk hO.b3 (by intro o h; simp at h; omega)), hO.below.trans (hk.below hO.below.size (by intro k o h; simp at h; omega))⟩
  · have hx1 : (p.state != 2) = true := by simp [hx]
    have e0 : endE p = 6 := by unfold endE; rw [if_pos hx]
    have e1 : endP p = Peer10.none_ := by unfold endP; rw [e0]; rfl
    have e2 : endQ p why = P7.none_ := by unfold endQ; rw [e0]; rfl
    rw [e0, e1, e2]
    clear e0 e1 e2
    go_enter Try.func25, Try.ntmps25
    go_wp2_with (first
      | (with_reducible refine own_row1 (#[.int .i64 0, .int .i64 0, .int .u32 0, .int .u32 0, .int .u32 0, .int .u32 0, .int .i64 0, .int .u32 0, .int .u32 0, .int .u32 0, .int .u32 0, .int .u32 0, .int .u32 0, .bool false, .int .u32 0, .int .u32 0]) hO rfl _ _ rfl rfl rfl (by kernel_rfl) (by kernel_rfl) (by simp [Value.oneCell', q32, q64]) ?_; intro w31 hO31 hz31 hk31; replace hO := hO31; clear hO31 hz31 hk31)
      | (with_reducible refine own_row2 (#[.int .i64 0, .int .i64 0, .int .i64 0, .int .u32 0, .int .u32 0, .slice none 0 0, .int .u64 0]) hO rfl _ _ rfl rfl rfl (by kernel_rfl) (by kernel_rfl) (by simp [Value.oneCell', q32, q64]) ?_; intro w32 hO32 hz32 hk32; replace hO := hO32; clear hO32 hz32 hk32))
    exact bodyPost_ret (results_cct Try.results25 _ _ _ _ _ _ _ _ _ rfl rfl rfl hO.b1 hO.b2 Try.underlying26 rfl (by kernel_rfl) Try.underlying30 rfl (by kernel_rfl)) rfl (ret_none _ _ _ hO.below)
end Go.Proofs.Ytnngknmmokajgaa
