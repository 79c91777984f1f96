/- End: the program's. -/
import Derived.Test.YtnngknmmokajgaaShakeData
import Derived.Test.YtnngknmmokajgaaShakeClosed
set_option linter.unusedSimpArgs false
set_option linter.unusedVariables false
namespace Go.Proofs.Ytnngknmmokajgaa
open Go.RowKit Go.Shelf

theorem peer_key {W : World} {g : Nat} {t : TypeId} {p : Peer10} (hB : Blk W g t (peerC p)) : W.rangeAt g 9 [q32 p.key.k0, q32 p.key.k1, q32 p.key.k2, q32 p.key.k3] := by
  intro j v hv
  rw [hB.cell]
  match j, hv with
  | 0, hv | 1, hv | 2, hv | 3, hv => exact hv
theorem new_one {W : World} {base : Nat} (x : UInt8) (h : base ≤ W.heap.size) : NewBytes base [x] (.slice (some ⟨W.heap.size, 0, none⟩) 1 1) (W.alloc (.cells #[q8 x] 5)) :=
  ⟨_, 1, rfl, one_byte (Blk.new W _ _), fun _ => ⟨W.heap.size, rfl, h, by simp, fun i hi => by
    obtain rfl : i = 0 := by simpa using hi
    exact (Blk.new W 5 #[q8 x]).frozen 0⟩⟩
theorem new_bytes1 {W : World} {base : Nat} {x : UInt8} {A : Option Addr} {c : Nat} (h : NewBytes base [x] (.slice A 1 c) W) : Bytes W A c [x] := by
  obtain ⟨A', c', e, hB, _⟩ := h
  injection e with e1 e2 e3
  rw [e1, e3]; exact hB
set_option maxHeartbeats 8000000 in
theorem shend_k (p : Peer10) (why : UInt8) (w : World) : Calls Try.prog 24 #[.agg (peerC p), q8 why] w (Ret10 w (endP p) (endQ p why) (endE p)) := by
  have hO : Own w _ [_, _, _] := Own.start3 w 26 26 30 (peerC p) #[.int .i64 0, .int .i64 0, .int .u32 0, .int .u32 0, .int .u32 0, .int .u32 0, .int .i64 0, .int .u32 0, .int .u32 0, .int .u32 0, .int .u32 0, .int .u32 0, .int .u32 0, .bool false, .int .u32 0, .int .u32 0] #[.int .i64 0, .int .i64 0, .int .i64 0, .int .u32 0, .int .u32 0, .slice none 0 0, .int .u64 0]
  have hcp := fun i => (hO.b0.cell i).trans (peer_cell p i)
  have hnum := fun W => shnum_k p W
  have hdir := fun W => shdir_k p W
  have hcl := fun W => shclosed_k p W
  have hse : ∀ W A2 c2, Bytes W A2 c2 [why] → Calls Try.prog 33 #[.agg #[q32 p.key.k0, q32 p.key.k1, q32 p.key.k2, q32 p.key.k3], .agg #[.int .i64 6, .int .i64 (dir10 p), .int .i64 p.train, .int .u32 0, q32 p.b, .slice A2 1 c2, .int .u64 0]] W fun e w' => ∃ A3 c3, e = .returned (.agg (pduC (seal7 p.key ⟨6, dir10 p, p.train, 0, p.b, [why], 0⟩) A3 1 c3)) ∧ NewBytes W.heap.size [why] (.slice A3 1 c3) w' ∧ Below W.heap.size W w' := by
    intro W A2 c2 h
    refine (pseal_k p.key 6 (dir10 p) p.train 0 p.b [why] 0 A2 1 c2 W rfl h (by show (1 : Nat) ≤ 2000; decide)).mono ?_
    rintro e w' ⟨v, rfl, hv, hb⟩
    obtain ⟨bv, rfl, hN⟩ := hv
    rw [show (seal7 p.key ⟨6, dir10 p, p.train, 0, p.b, [why], 0⟩).body = [why] from (seal_fields p.key _).2.2.2.2.2] at hN
    obtain ⟨A3, c3, e3, h3⟩ := id hN
    simp only [List.length_cons, List.length_nil, Nat.zero_add] at e3
    subst e3
    exact ⟨A3, c3, rfl, hN, hb⟩
  by_cases hx : p.state = 2
  · have hx1 : (p.state != 2) = false := by simp [hx]
    cases hm : numbered10 p with
    | false =>
      rw [hm] at hnum
      have e0 : endE p = 1 := by unfold endE; rw [if_neg (fun h => h hx), if_pos hm]
      have e1 : endP p = Peer10.none_ := by unfold endP; rw [e0]; rfl
      have e2 : endQ p why = P7.none_ := by unfold endQ; rw [e0]; rfl
      rw [e0, e1, e2]
      clear e0 e1 e2
      go_enter Try.func24, Try.ntmps24
      go_wp2_with (first
        | ((with_reducible refine own_loadg0 hO ?_ _ rfl rfl _ Try.underlying26 rfl (peer_size p) ?_); (· first | rfl | (simp [Region.wanted, yielded]; done)))
        | (go_at_call 30; (with_reducible refine (hnum _).mono ?_); rintro e w1 ⟨rfl, hb1⟩; replace hO := hO.grow hb1)
        | (with_reducible refine own_row1 (#[.int .i64 0, .int .i64 0, .int .u32 0, .int .u32 0, .int .u32 0, .int .u32 0, .int .i64 0, .int .u32 0, .int .u32 0, .int .u32 0, .int .u32 0, .int .u32 0, .int .u32 0, .bool false, .int .u32 0, .int .u32 0]) hO rfl _ _ rfl rfl rfl (by kernel_rfl) (by kernel_rfl) (by simp [Value.oneCell', q32, q64]) ?_; intro w31 hO31 hz31 hk31; replace hO := hO31; clear hO31 hz31 hk31)
        | (with_reducible refine own_row2 (#[.int .i64 0, .int .i64 0, .int .i64 0, .int .u32 0, .int .u32 0, .slice none 0 0, .int .u64 0]) hO rfl _ _ rfl rfl rfl (by kernel_rfl) (by kernel_rfl) (by simp [Value.oneCell', q32, q64]) ?_; intro w32 hO32 hz32 hk32; replace hO := hO32; clear hO32 hz32 hk32))
      exact bodyPost_ret (results_cct Try.results24 _ _ _ _ _ _ _ _ _ rfl rfl rfl hO.b1 hO.b2 Try.underlying26 rfl (by kernel_rfl) Try.underlying30 rfl (by kernel_rfl)) rfl (ret_none _ _ _ hO.below)
    | true =>
      rw [hm] at hnum
      have e0 : endE p = 0 := by unfold endE; rw [if_neg (fun h => h hx), if_neg (by simp [hm])]
      have e1 : endP p = closed10 p := by unfold endP; rw [e0, if_pos rfl]
      have e2 : endQ p why = seal7 p.key ⟨6, dir10 p, p.train, 0, p.b, [why], 0⟩ := by unfold endQ; rw [e0, if_pos rfl]
      rw [e0, e1, e2]
      clear e0 e1 e2
      go_enter Try.func24, Try.ntmps24
      go_wp2_with (first
        | ((with_reducible refine own_loadg0 hO ?_ _ rfl rfl _ Try.underlying26 rfl (peer_size p) ?_); (· first | rfl | (simp [Region.wanted, yielded]; done)))
        | (go_at_call 30; (with_reducible refine (hnum _).mono ?_); rintro e w1 ⟨rfl, hb1⟩; replace hO := hO.grow hb1))
      apply wp_region_lexl
      case hFl =>
        intro u
        simp only [List.map, fill, Act.put, List.setIfInBounds_toArray, List.set_cons_zero, List.set_cons_succ, Nat.reduceAdd, Nat.zero_add]
        rfl
      case hm => kernel_rfl
      case hB => kernel_rfl
      case hA => kernel_rfl
      case hap => kernel_rfl
      apply LexL.is
      · (intro u w' hk hd
         simp [Waited, Region.binds, Is] at hd
         refine looked_want (by first | rfl | simp [Region.wanted, yielded, hd]) ?_
         intro K hK
         skip
         go_wp2_with (fail)
         try simp only [hd] at hK
         refine hK _ _ ?_ rfl
         first | exact Below.refl _ _ | exact hb3)
      refine LexL.is (c := .agg #[q32 p.key.k0, q32 p.key.k1, q32 p.key.k2, q32 p.key.k3]) ?_ ?_
      · (intro u w' hk hd
         simp [Waited, Region.binds, Is] at hd
         refine looked_want (by first | rfl | simp [Region.wanted, yielded, hd]) ?_
         intro K hK
         have hbk := hO.b0.below hk hO.b0.lt
         refine wp_load_mid 24 _ rfl w.heap.size 9 (by simp [Act.eval, hd]) [q32 p.key.k0, q32 p.key.k1, q32 p.key.k2, q32 p.key.k3] _ (peer_key hbk) Try.underlying24 rfl (by kernel_rfl) ?_
         exact hK _ _ (Below.refl _ _) rfl)
      refine LexL.is (c := .agg (peerC p)) ?_ ?_
      · (intro u w' hk hd
         have hbk := (hO.b0).below hk (hO.b0).lt
         refine looked_want (by first | rfl | simp [Region.wanted, yielded]) ?_
         intro K hK
         exact wp_load_row 26 _ rfl _ rfl 26 _ (0, 0) _ hbk Try.underlying26 rfl (by kernel_rfl) (hK _ _ (Below.refl _ _) rfl))
      apply LexL.is
      · (intro u w' hk hd
         simp [Waited, Region.binds, Is] at hd
         refine looked_want (by first | rfl | simp [Region.wanted, yielded, hd]) ?_
         intro K hK
         skip
         go_wp2_with ((go_at_call 40; (with_reducible refine (hdir _).mono ?_); rintro e w3 ⟨rfl, hb3⟩))
         try simp only [hd] at hK
         refine hK _ _ ?_ rfl
         first | exact Below.refl _ _ | exact hb3)
      apply LexL.is
      · (intro u w' hk hd
         simp [Waited, Region.binds, Is] at hd
         refine looked_want (by first | rfl | simp [Region.wanted, yielded, hd]) ?_
         intro K hK
         skip
         go_wp2_with (fail)
         try simp only [hd] at hK
         refine hK _ _ ?_ rfl
         first | exact Below.refl _ _ | exact hb3)
      apply LexL.is
      · (intro u w' hk hd
         simp [Waited, Region.binds, Is] at hd
         refine looked_want (by first | rfl | simp [Region.wanted, yielded, hd]) ?_
         intro K hK
         have hcp := fun i => ((hO.b0.below hk hO.b0.lt).cell i).trans (peer_cell p i)
         go_wp2_with (fail)
         try simp only [hd] at hK
         refine hK _ _ ?_ rfl
         first | exact Below.refl _ _ | exact hb3)
      apply LexL.is
      · (intro u w' hk hd
         simp [Waited, Region.binds, Is] at hd
         refine looked_want (by first | rfl | simp [Region.wanted, yielded, hd]) ?_
         intro K hK
         skip
         go_wp2_with (fail)
         try simp only [hd] at hK
         refine hK _ _ ?_ rfl
         first | exact Below.refl _ _ | exact hb3)
      apply LexL.is
      · (intro u w' hk hd
         simp [Waited, Region.binds, Is] at hd
         refine looked_want (by first | rfl | simp [Region.wanted, yielded, hd]) ?_
         intro K hK
         have hcp := fun i => ((hO.b0.below hk hO.b0.lt).cell i).trans (peer_cell p i)
         go_wp2_with (fail)
         try simp only [hd] at hK
         refine hK _ _ ?_ rfl
         first | exact Below.refl _ _ | exact hb3)
      apply LexL.is
      · (intro u w' hk hd
         simp [Waited, Region.binds, Is] at hd
         refine looked_want (by first | rfl | simp [Region.wanted, yielded, hd]) ?_
         intro K hK
         skip
         go_wp2_with (fail)
         try simp only [hd] at hK
         refine hK _ _ ?_ rfl
         first | exact Below.refl _ _ | exact hb3)
      refine LexL.word (NewBytes w1.heap.size [why]) (fun _ _ _ h hb => h.grow hb) ?_ ?_
      · (intro u w' hk hd
         simp [Waited, Region.binds, Is] at hd
         skip
         refine looked_want (by first | rfl | simp [Region.wanted, yielded]) ?_
         intro K hK
         go_wp2_with (fail)
         try simp only [hd] at hK
         exact hK _ _ ((Below.refl _ _).alloc (Nat.le_refl _) _) (new_one why hk.size))
      refine LexL.word (fun v w' => ∃ A2 c2, v = .agg #[.int .i64 6, .int .i64 (dir10 p), .int .i64 p.train, .int .u32 0, q32 p.b, .slice A2 1 c2, .int .u64 0] ∧ NewBytes w1.heap.size [why] (.slice A2 1 c2) w') ((fun _ _ _ h hb => (by obtain ⟨A2, c2, e, h2⟩ := h; exact ⟨A2, c2, e, h2.grow hb⟩))) ?_ ?_
      · (intro u w' hk hd
         simp [Waited, Region.binds, Is] at hd
         obtain ⟨hd1, hd2, hd3, hd4⟩ := hd; obtain ⟨A2, c2, hd5, hd6⟩ := id hd4; simp only [List.length_cons, List.length_nil, Nat.zero_add] at hd5
         refine looked_want (by first | rfl | simp [Region.wanted, yielded]) ?_
         intro K hK
         go_wp2_with (fail)
         try simp only [hd1, hd2, hd3, hd5] at hK
         exact hK _ _ (Below.refl _ _) (⟨A2, c2, rfl, hd5 ▸ hd4⟩))
      refine LexL.word (fun v w' => ∃ A3 c3, v = .agg (pduC (seal7 p.key ⟨6, dir10 p, p.train, 0, p.b, [why], 0⟩) A3 1 c3) ∧ NewBytes w1.heap.size [why] (.slice A3 1 c3) w') ((fun _ _ _ h hb => (by obtain ⟨A2, c2, e, h2⟩ := h; exact ⟨A2, c2, e, h2.grow hb⟩))) ?_ ?_
      · (intro u w' hk hd
         simp [Waited, Region.binds, Is] at hd
         obtain ⟨hd1, ⟨A2, c2, hd5, hd6⟩, hd3⟩ := hd
         refine looked_want (by first | rfl | simp [Region.wanted, yielded]) ?_
         intro K hK
         go_wp2_with (go_at_call 33; (with_reducible refine (hse _ A2 c2 (new_bytes1 hd6)).mono ?_); rintro e w3 ⟨A3, c3, rfl, hN3, hb3⟩)
         try simp only [hd1, hd3, hd5] at hK
         exact hK _ _ (hb3) (⟨A3, c3, rfl, hN3.mono hk.size⟩))
      refine LexL.word (IsNew w1.heap.size) (fun _ _ _ h hb => h.grow hb) ?_ ?_
      · (intro u w' hk hd
         simp [Waited, Region.binds, Is] at hd
         skip
         refine looked_want (by first | rfl | simp [Region.wanted, yielded]) ?_
         intro K hK
         go_wp2_with (fail)
         try simp only [hd] at hK
         exact hK _ _ ((Below.refl _ _).alloc (Nat.le_refl _) _) (⟨_, rfl, hk.size, Blk.new _ _ _⟩))
      refine LexL.last ?_
      intro u w8 hk hd
      simp only [List.nil_append, List.cons_append] at hd
      obtain ⟨A3, c3, h8, hv8⟩ := hd 11 _ rfl
      obtain ⟨g, h9, hg9, hb9⟩ := hd 12 _ rfl
      clear hd
      refine ⟨rfl, ?_⟩
      intro K hK
      have hlo := hO.b0.lt
      have hlo1 := hO.b1.lt
      have hlo2 := hO.b2.lt
      replace hO := (hO.grow hk).add3 hb9 (Nat.le_trans hO.below.size hg9) (by show w.heap.size ≠ g; omega) (by show w.heap.size + 1 ≠ g; omega) (by show w.heap.size + 1 + 1 ≠ g; omega)
      refine wp_store_row 30 _ _ rfl g (pduC (seal7 p.key ⟨6, dir10 p, p.train, 0, p.b, [why], 0⟩) A3 1 c3) (by simp [Act.eval, h9]) (by simp [Act.eval, h8]) 30 _ hb9 (pdu_size _ _ _ _) rfl (pdu_cells _ _ _ _) (hK _ _ ?_)
      have hv9 := hv8.apart hb9 (pduC (seal7 p.key ⟨6, dir10 p, p.train, 0, p.b, [why], 0⟩) A3 1 c3)
      have hgt : w.heap.size + 1 + 1 < g := by have := hg9; omega
      replace hO := Own.with (L1 := [_, _, _]) hO (below_row hO.below (hO.blk (g, 30, #[.int .i64 0, .int .i64 0, .int .i64 0, .int .u32 0, .int .u32 0, .slice none 0 0, .int .u64 0]) (by simp)).1 (pduC (seal7 p.key ⟨6, dir10 p, p.train, 0, p.b, [why], 0⟩) A3 1 c3)) (Blk.row hb9 (pduC (seal7 p.key ⟨6, dir10 p, p.train, 0, p.b, [why], 0⟩) A3 1 c3)) (fun k hk => setRow_other w8 g k (pduC (seal7 p.key ⟨6, dir10 p, p.train, 0, p.b, [why], 0⟩) A3 1 c3) hk)
      clear hb9 hv8 hcp
      generalize w8.setRow g (pduC (seal7 p.key ⟨6, dir10 p, p.train, 0, p.b, [why], 0⟩) A3 1 c3) = w9 at *
      have hB9 : Bytes w9 A3 c3 [why] := new_bytes1 hv9
      have hbd : (seal7 p.key ⟨6, dir10 p, p.train, 0, p.b, [why], 0⟩).body = [why] := (seal_fields p.key _).2.2.2.2.2
      have hB7 : ∀ w7, Stp [(w.heap.size + 1, none), (w.heap.size + 1 + 1, none)] w9 w7 → Bytes w7 A3 c3 [why] := fun w7 hk => new_bytes1 (hv9.kept hk.size (fun k h1 h2 => hk.block k h2 (by intro o ho; simp at ho; omega)))
      go_wp2_with fail
      simp only [h9]
      clear h8 h9 hv9 hg9
      apply wp_region_lexs [(w.heap.size + 1, none), (w.heap.size + 1 + 1, none)]
      case hFl =>
        intro u
        simp only [List.map, fill, Act.put, List.setIfInBounds_toArray, List.set_cons_zero, List.set_cons_succ, Nat.reduceAdd, Nat.zero_add]
        rfl
      case hm => kernel_rfl
      case hB => kernel_rfl
      case hap => kernel_rfl
      refine LexS.is (c := .agg (peerC p)) ?_ ?_
      · (intro u w' hk hd
         have hbk := hk.blk hO.b0 (by intro o h; simp at h; try omega)
         refine lookedT_want (by first | rfl | simp [Region.wanted, yielded]) ?_
         intro K hK
         exact wp_load_row 26 _ rfl _ rfl 26 _ (0, 0) _ hbk Try.underlying26 rfl (by kernel_rfl) (hK _ _ (Stp.refl _ _) rfl))
      apply LexS.is
      · (intro u w' hk hd
         simp [Waited, Region.binds, Is] at hd
         refine lookedT_want (by first | rfl | simp [Region.wanted, yielded, hd]) ?_
         intro K hK
         skip
         go_wp2_with ((go_at_call 45; (with_reducible refine (hcl _).mono ?_); rintro e w3 ⟨rfl, hb3⟩))
         try simp only [hd] at hK
         refine hK _ _ ?_ rfl
         first | exact Stp.refl _ _ | exact Stp.of_below hb3 _)
      refine LexS.is (c := .agg (pduC (seal7 p.key ⟨6, dir10 p, p.train, 0, p.b, [why], 0⟩) A3 1 c3)) ?_ ?_
      · (intro u w' hk hd
         have hbk := hk.blk hO.b3 (by intro o h; simp at h; first | omega | done)
         refine lookedT_want (by first | rfl | simp [Region.wanted, yielded]) ?_
         intro K hK
         exact wp_load_row 30 _ rfl _ rfl 30 _ (0, 0) _ hbk Try.underlying30 rfl (pdu_size _ _ _ _) (hK _ _ (Stp.refl _ _) rfl))
      refine LexS.row (w.heap.size + 1) 26 _ (peerC (closed10 p)) (by simp) hO.b1 (by rfl) 26 _ _ rfl (by kernel_rfl) (peer_cells (closed10 p)) ?_ ?_
      · (intro u w' hk hd
         simp [Waited, Region.binds, Is] at hd
         exact ⟨by first | rfl | simp [Region.wanted, yielded, hd], rfl, by simp [Act.eval, hd]⟩)
      refine LexS.row (w.heap.size + 1 + 1) 30 _ (pduC (seal7 p.key ⟨6, dir10 p, p.train, 0, p.b, [why], 0⟩) A3 1 c3) (by simp) hO.b2 (by rfl) 30 _ _ rfl (by kernel_rfl) (pdu_cells (seal7 p.key ⟨6, dir10 p, p.train, 0, p.b, [why], 0⟩) A3 1 c3) ?_ ?_
      · (intro u w' hk hd
         simp [Waited, Region.binds, Is] at hd
         exact ⟨by first | rfl | simp [Region.wanted, yielded, hd], rfl, by simp [Act.eval, hd]⟩)
      apply LexS.is
      · (intro u w' hk hd
         simp [Waited, Region.binds, Is] at hd
         refine lookedT_want (by first | rfl | simp [Region.wanted, yielded, hd]) ?_
         intro K hK
         skip
         go_wp2_with (fail)
         try simp only [hd] at hK
         refine hK _ _ ?_ rfl
         first | exact Stp.refl _ _ | exact Stp.of_below hb3 _)
      refine LexS.nil (by simp [W2.fit, Apart2]) ?_
      intro u w7 hk hd
      simp only [List.nil_append, List.cons_append] at hd
      have h5 : Blk w7 (w.heap.size + 1) 26 (peerC (closed10 p)) := hd 3 _ rfl
      have h6 : Blk w7 (w.heap.size + 1 + 1) 30 (pduC (seal7 p.key ⟨6, dir10 p, p.train, 0, p.b, [why], 0⟩) A3 1 c3) := hd 4 _ rfl
      have h7 := hd 5 _ rfl
      simp only [Is] at h7
      clear hd
      go_wp2_with fail
      exact bodyPost_ret (results_cct Try.results24 _ _ _ _ _ _ _ _ _ rfl rfl h7 h5 h6 Try.underlying26 rfl (peer_size _) Try.underlying30 rfl (pdu_size _ _ _ _)) rfl ⟨A3, c3, by rw [hbd]; rfl, by rw [hbd]; exact hB7 w7 hk, hO.below.trans (hk.below hO.below.size (by intro k o h; simp at h; omega))⟩
  · have hx1 : (p.state != 2) = true := by simp [hx]
    have e0 : endE p = 6 := by unfold endE; rw [if_pos hx]
    have e1 : endP p = Peer10.none_ := by unfold endP; rw [e0]; rfl
    have e2 : endQ p why = P7.none_ := by unfold endQ; rw [e0]; rfl
    rw [e0, e1, e2]
    clear e0 e1 e2
    go_enter Try.func24, Try.ntmps24
    go_wp2_with (first
      | (with_reducible refine own_row1 (#[.int .i64 0, .int .i64 0, .int .u32 0, .int .u32 0, .int .u32 0, .int .u32 0, .int .i64 0, .int .u32 0, .int .u32 0, .int .u32 0, .int .u32 0, .int .u32 0, .int .u32 0, .bool false, .int .u32 0, .int .u32 0]) hO rfl _ _ rfl rfl rfl (by kernel_rfl) (by kernel_rfl) (by simp [Value.oneCell', q32, q64]) ?_; intro w31 hO31 hz31 hk31; replace hO := hO31; clear hO31 hz31 hk31)
      | (with_reducible refine own_row2 (#[.int .i64 0, .int .i64 0, .int .i64 0, .int .u32 0, .int .u32 0, .slice none 0 0, .int .u64 0]) hO rfl _ _ rfl rfl rfl (by kernel_rfl) (by kernel_rfl) (by simp [Value.oneCell', q32, q64]) ?_; intro w32 hO32 hz32 hk32; replace hO := hO32; clear hO32 hz32 hk32))
    exact bodyPost_ret (results_cct Try.results24 _ _ _ _ _ _ _ _ _ rfl rfl rfl hO.b1 hO.b2 Try.underlying26 rfl (by kernel_rfl) Try.underlying30 rfl (by kernel_rfl)) rfl (ret_none _ _ _ hO.below)
end Go.Proofs.Ytnngknmmokajgaa
