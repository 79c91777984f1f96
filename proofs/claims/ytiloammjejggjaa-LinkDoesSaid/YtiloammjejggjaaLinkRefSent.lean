/- The document's Sent. -/
import Derived.Test.YtiloammjejggjaaLinkRefAck
set_option linter.unusedSimpArgs false
set_option linter.unusedVariables false
namespace Go.Proofs.Ytiloammjejggjaa
open Go.RowKit

theorem scanW_len (ws : List Wt) (i : Nat) (x : Wt) (k : Nat) : (scanW ws i x k).length ≤ k + 1 := by
  unfold scanW
  split
  · simp; omega
  · simp; omega
set_option maxRecDepth 100000 in
set_option maxHeartbeats 8000000 in
theorem rlsent_bad (l : Lk) (A : Option Addr) (n c : Nat) (xs : List (Wt × Value)) (t now : Int) (Ab : Option Addr) (nb cb : Nat) (body : List UInt8) (w : World) (hx : xs.map (·.1) = l.waits) (hn : l.waits.length = n) (hW : WaitsAt w A xs) (hc : n ≤ 9223372036854775807) (hbn : body.length = nb) (hB : Bytes w Ab cb body) (he : sentE l t now body ≠ 0) :
    Calls Try.prog 17 #[.agg #[.int .i64 l.period, .int .i64 l.most, .int .i64 l.quiet, .int .i64 l.heard, .slice A n c], .int .i64 t, .int .i64 now, .slice Ab nb cb] w (RetR Lk.zero (sentE l t now body) w) := by
  have hmay := fun W (h : WaitsAt W A xs) => rlmay_k l A n c xs W hx hn h hc
  have hpl := fun W (h : WaitsAt W A xs) => rlplace_k l A n c xs t W hx hn h hc
  have htt := fun W => rtime11_k t W
  have htn := fun W => rtime11_k now W
  have hBl := hB.len_le
  have hsz := fun W => rlsized_k Ab nb cb W (by omega)
  have hsi : (decide (1 ≤ nb) && decide (nb ≤ 1023)) = isSized body := by rw [← hbn]; rfl
  simp only [hsi] at hsz
  have hO : Own w _ [_, _] := Own.start2 w 25 25 #[.int .i64 l.period, .int .i64 l.most, .int .i64 l.quiet, .int .i64 l.heard, .slice A n c] #[.int .i64 0, .int .i64 0, .int .i64 0, .int .i64 0, .slice none 0 0]
  have hH := fun hm => mayL_head (l := l) hm
  have hpn := fun h => placeI_neg (ws := l.waits) (t := t) h
  have hpp := fun h => placeI_pos (ws := l.waits) (t := t) h
  unfold sentE at he ⊢
  clear hsi hbn hB hBl hx
  generalize isSized body = b4 at *
  generalize isTime now = b3 at *
  generalize isTime t = b2 at *
  generalize hb1 : mayL l = b1 at *
  replace hb1 := Lib.hid hb1
  generalize findB l.waits t = fb at *
  generalize placeI l.waits t = pl at *
  obtain ⟨ws, hws⟩ : ∃ ws, ws = l.waits := ⟨_, rfl⟩
  rw [← hws] at hn hH he ⊢
  clear hws
  generalize l.period = x1 at *
  generalize l.most = x2 at *
  generalize l.quiet = x3 at *
  generalize l.heard = x4 at *
  have lvl : b1 = false ∨ (b1 = true ∧ b2 = false) ∨ (b1 = true ∧ b2 = true ∧ b3 = false) ∨ (b1 = true ∧ b2 = true ∧ b3 = true ∧ b4 = false) ∨ (b1 = true ∧ b2 = true ∧ b3 = true ∧ b4 = true ∧ fb = true) ∨ (b1 = true ∧ b2 = true ∧ b3 = true ∧ b4 = true ∧ fb = false) := by
    cases b1 <;> cases b2 <;> cases b3 <;> cases b4 <;> cases fb <;> simp
  rcases lvl with rfl | ⟨rfl, rfl⟩ | ⟨rfl, rfl, rfl⟩ | ⟨rfl, rfl, rfl, rfl⟩ | ⟨rfl, rfl, rfl, rfl, rfl⟩ | ⟨rfl, rfl, rfl, rfl, rfl⟩
  iterate 4 (
    · clear hn he hH hpn hpp
      simp only [Bool.false_and, Bool.and_false, Bool.false_eq_true, if_false]
      go_enter Try.func17, Try.ntmps17
      go_wp2_with (
        (first
          | ((with_reducible refine own_loadg0 hO ?_ _ rfl rfl _ Try.underlying25 rfl (by kernel_rfl) ?_); (· first | rfl | (simp [Region.wanted, yielded]; done)))
          | (go_at_call 23; (with_reducible refine (hmay _ (hW.below hO.below)).mono ?_); rintro e w1 ⟨rfl, hb1⟩; replace hO := hO.grow hb1)
          | (go_at_call 34; (with_reducible refine (htt _).mono ?_); rintro e w1 ⟨rfl, hb1⟩; replace hO := hO.grow hb1)
          | (go_at_call 34; (with_reducible refine (htn _).mono ?_); rintro e w1 ⟨rfl, hb1⟩; replace hO := hO.grow hb1)
          | (go_at_call 35; (with_reducible refine (hsz _).mono ?_); rintro e w1 ⟨rfl, hb1⟩; replace hO := hO.grow hb1)
          | (go_at_call 36; (with_reducible refine (hpl _ (hW.below hO.below)).mono ?_); rintro e w1 ⟨rfl, hb1⟩; replace hO := hO.grow hb1; have hclp := hO.b0.cell)
          | ((with_reducible refine own_row1 (#[.int .i64 0, .int .i64 0, .int .i64 0, .int .i64 0, .slice none 0 0]) hO rfl _ _ rfl rfl rfl (by kernel_rfl) rfl ?_ ?_); (· first | rfl | (simp [Value.oneCell']; done)); intro wR hOR hszR hkR; replace hO := hOR; clear hOR)
          )
        )
      exact bodyPost_ret (results_ct Try.results17 _ _ _ _ _ _ rfl rfl hO.b1 Try.underlying25 rfl (by kernel_rfl)) rfl ⟨_, rfl, ⟨_, rfl, IsWaits.nil _⟩, hO.below⟩)
  · have hp0 := hpp rfl
    have hpd : decide (0 ≤ pl) = true := by simpa using hp0
    clear hn he hH hpn hpp hp0
    simp only [Bool.and_self, if_true]
    go_enter Try.func17, Try.ntmps17
    go_wp2_with (
      (first
        | ((with_reducible refine own_loadg0 hO ?_ _ rfl rfl _ Try.underlying25 rfl (by kernel_rfl) ?_); (· first | rfl | (simp [Region.wanted, yielded]; done)))
        | (go_at_call 23; (with_reducible refine (hmay _ (hW.below hO.below)).mono ?_); rintro e w1 ⟨rfl, hb1⟩; replace hO := hO.grow hb1)
        | (go_at_call 34; (with_reducible refine (htt _).mono ?_); rintro e w1 ⟨rfl, hb1⟩; replace hO := hO.grow hb1)
        | (go_at_call 34; (with_reducible refine (htn _).mono ?_); rintro e w1 ⟨rfl, hb1⟩; replace hO := hO.grow hb1)
        | (go_at_call 35; (with_reducible refine (hsz _).mono ?_); rintro e w1 ⟨rfl, hb1⟩; replace hO := hO.grow hb1)
        | (go_at_call 36; (with_reducible refine (hpl _ (hW.below hO.below)).mono ?_); rintro e w1 ⟨rfl, hb1⟩; replace hO := hO.grow hb1; have hclp := hO.b0.cell)
        | ((with_reducible refine own_row1 (#[.int .i64 0, .int .i64 0, .int .i64 0, .int .i64 0, .slice none 0 0]) hO rfl _ _ rfl rfl rfl (by kernel_rfl) rfl ?_ ?_); (· first | rfl | (simp [Value.oneCell']; done)); intro wR hOR hszR hkR; replace hO := hOR; clear hOR)
        )
      )
    exact bodyPost_ret (results_ct Try.results17 _ _ _ _ _ _ rfl rfl hO.b1 Try.underlying25 rfl (by kernel_rfl)) rfl ⟨_, rfl, ⟨_, rfl, IsWaits.nil _⟩, hO.below⟩
  · obtain rfl := hpn rfl
    have hlen := (hH rfl).2.2.2.2.2.2.2
    rw [hn] at he hlen ⊢
    simp only [Bool.and_self, Bool.false_eq_true, if_true, if_false] at he ⊢
    obtain rfl : n = 8 := by
      rcases Nat.eq_or_lt_of_le hlen with h | h
      · exact h
      · rw [if_neg (by omega)] at he; exact absurd rfl he
    clear hn he hH hpn hpp
    simp only [if_true]
    go_enter Try.func17, Try.ntmps17
    go_wp2_with (
      (first
        | ((with_reducible refine own_loadg0 hO ?_ _ rfl rfl _ Try.underlying25 rfl (by kernel_rfl) ?_); (· first | rfl | (simp [Region.wanted, yielded]; done)))
        | (go_at_call 23; (with_reducible refine (hmay _ (hW.below hO.below)).mono ?_); rintro e w1 ⟨rfl, hb1⟩; replace hO := hO.grow hb1)
        | (go_at_call 34; (with_reducible refine (htt _).mono ?_); rintro e w1 ⟨rfl, hb1⟩; replace hO := hO.grow hb1)
        | (go_at_call 34; (with_reducible refine (htn _).mono ?_); rintro e w1 ⟨rfl, hb1⟩; replace hO := hO.grow hb1)
        | (go_at_call 35; (with_reducible refine (hsz _).mono ?_); rintro e w1 ⟨rfl, hb1⟩; replace hO := hO.grow hb1)
        | (go_at_call 36; (with_reducible refine (hpl _ (hW.below hO.below)).mono ?_); rintro e w1 ⟨rfl, hb1⟩; replace hO := hO.grow hb1; have hclp := hO.b0.cell)
        | ((with_reducible refine own_row1 (#[.int .i64 0, .int .i64 0, .int .i64 0, .int .i64 0, .slice none 0 0]) hO rfl _ _ rfl rfl rfl (by kernel_rfl) rfl ?_ ?_); (· first | rfl | (simp [Value.oneCell']; done)); intro wR hOR hszR hkR; replace hO := hOR; clear hOR)
        )
      )
    exact bodyPost_ret (results_ct Try.results17 _ _ _ _ _ _ rfl rfl hO.b1 Try.underlying25 rfl (by kernel_rfl)) rfl ⟨_, rfl, ⟨_, rfl, IsWaits.nil _⟩, hO.below⟩
set_option maxRecDepth 100000 in
set_option maxHeartbeats 8000000 in
theorem rlsent_ok (l : Lk) (A : Option Addr) (n c : Nat) (xs : List (Wt × Value)) (t now : Int) (Ab0 : Option Addr) (nb cb0 : Nat) (body : List UInt8) (w : World) (hx : xs.map (·.1) = l.waits) (hn : l.waits.length = n) (hW : WaitsAt w A xs) (hc : n ≤ 9223372036854775807) (hbn : body.length = nb) (hB : Bytes w Ab0 cb0 body) (he : sentE l t now body = 0) :
    Calls Try.prog 17 #[.agg #[.int .i64 l.period, .int .i64 l.most, .int .i64 l.quiet, .int .i64 l.heard, .slice A n c], .int .i64 t, .int .i64 now, .slice Ab0 nb cb0] w (RetR ⟨l.period, l.most, l.quiet, l.heard, insW l t now body⟩ 0 w) := by
  obtain ⟨hm, ht, hnw, hsb, hfb, hne8⟩ := sentE_zero he
  have hmay := fun W (h : WaitsAt W A xs) => rlmay_k l A n c xs W hx hn h hc
  have hpl := fun W (h : WaitsAt W A xs) => rlplace_k l A n c xs t W hx hn h hc
  have htt := fun W => rtime11_k t W
  have htn := fun W => rtime11_k now W
  have hBl := hB.len_le
  have hsz := fun W => rlsized_k Ab0 nb cb0 W (by omega)
  have hsi : (decide (1 ≤ nb) && decide (nb ≤ 1023)) = isSized body := by rw [← hbn]; rfl
  simp only [hsi] at hsz
  have hO : Own w _ [_, _] := Own.start2 w 25 25 #[.int .i64 l.period, .int .i64 l.most, .int .i64 l.quiet, .int .i64 l.heard, .slice A n c] #[.int .i64 0, .int .i64 0, .int .i64 0, .int .i64 0, .slice none 0 0]
  obtain ⟨h11, h12, _, _, _, _, _, hn8⟩ := mayL_head hm
  rw [hn] at hn8
  have hbt := isTime_iff.1 hnw
  have hside := fun k x h => find_side (t := t) (mayL_sorted hm).2 hfb (k := k) (x := x) h
  have hfl := findI_le l.waits t
  rw [hn] at hne8 hfl
  have hfull : decide ((8 : Int) ≤ (n : Int)) = false := by simp; omega
  rw [placeI_neg hfb] at hpl
  rw [hm] at hmay
  rw [ht] at htt
  rw [hnw] at htn
  rw [hsb] at hsz
  have hBI : IsBytes body (.slice Ab0 nb cb0) w := ⟨Ab0, cb0, by rw [hbn], hB⟩
  unfold insW
  generalize findI l.waits t = fi at *
  clear hm hfb he ht hnw hsb hsi hBl hB hbn
  obtain ⟨ws, hws⟩ : ∃ ws, ws = l.waits := ⟨_, rfl⟩
  rw [← hws] at hx hn hside ⊢
  clear hws
  generalize l.period = x1 at *
  generalize l.most = x2 at *
  generalize l.quiet = x3 at *
  generalize l.heard = x4 at *
  have HN := Lib.hid hn
  have HX := Lib.hid hx
  have HSD := Lib.hid hside
  have HFL := Lib.hid hfl
  obtain ⟨hn0, hn1⟩ := hbt
  clear hn hx hside hfl hne8
  have hW0 := hW
  go_enter Try.func17, Try.ntmps17
  go_wp2_with (first
    | ((with_reducible refine own_loadg0 hO ?_ _ rfl rfl _ Try.underlying25 rfl (by kernel_rfl) ?_); (· first | rfl | (simp [Region.wanted, yielded]; done)))
    | (go_at_call 23; (with_reducible refine (hmay _ (hW.below hO.below)).mono ?_); rintro e w1 ⟨rfl, hb1⟩; replace hO := hO.grow hb1)
    | (go_at_call 34; (with_reducible refine (htt _).mono ?_); rintro e w1 ⟨rfl, hb1⟩; replace hO := hO.grow hb1)
    | (go_at_call 34; (with_reducible refine (htn _).mono ?_); rintro e w1 ⟨rfl, hb1⟩; replace hO := hO.grow hb1)
    | (go_at_call 35; (with_reducible refine (hsz _).mono ?_); rintro e w1 ⟨rfl, hb1⟩; replace hO := hO.grow hb1)
    | (go_at_call 36; (with_reducible refine (hpl _ (hW.below hO.below)).mono ?_); rintro e w2 ⟨rfl, hb2⟩; have hOp := hO.grow hb2; have hclp := hOp.b0.cell; have hg7 := hOp.b1.lt; replace hO := hOp.new2 25 #[.int .i64 0, .int .i64 0, .int .i64 0, .int .i64 0, .slice none 0 0])
    | ((with_reducible refine own_loadg0 hOp ?_ _ rfl rfl _ Try.underlying25 rfl (by kernel_rfl) ?_); (· first | rfl | (simp [Region.wanted, yielded]; done)); clear hOp)
    | ((with_reducible refine own_row2 #[.int .i64 x1, .int .i64 x2, .int .i64 x3, .int .i64 x4, .slice A n c] hO rfl _ _ rfl rfl rfl (by kernel_rfl) rfl ?_ ?_); (· (simp [Value.oneCell']; done)); intro wR hOR hszR hkR; replace hO := hOR; clear hOR hszR hkR hclp; have hcl2 := hO.b2.cell)
    | ((with_reducible refine own_cell2 4 (.slice none 0 0) hO rfl 23 _ _ rfl rfl rfl (by kernel_rfl) ?_ rfl ?_); (· (simp; done)); intro wR hOR hszR hkR; replace hO := hOR; clear hOR hszR hkR hcl2; have hcl2 := hO.b0.cell)
    | ((have hg8 := hO.b2.lt); (with_reducible refine own_row3 #[.int .i64 t, .int .i64 (now + x1), .int .i64 0, .slice Ab0 nb cb0] (hO.new3 35 #[.int .i64 0, .int .i64 0, .int .i64 0, .slice none 0 0]) rfl _ _ rfl rfl rfl (by kernel_rfl) rfl ?_ ?_); (· (simp [Value.oneCell']; done)); intro wR hOR hszR hkR; replace hO := hOR; clear hOR hszR hkR hcl2))
  clear hpl hmay htt htn hsz hfull hn0 hn1 h11 h12
  rename World => wS
  generalize wR.heap.size = g8 at *
  generalize w2.heap.size = g7 at *
  replace hW := hW0
  clear hb2
  go_loopw [17, 16] (fun i f wr => ∃ (k m : Nat) (A3 : Option Addr) (c3 : Nat) (zs : List (Wt × Value)), k ≤ n ∧ i = .int .i64 k ∧ f = .bool (decide (fi < k)) ∧ zs.length = m ∧ zs.map (·.1) = scanW ws fi ⟨t, now + x1, 0, body⟩ k ∧ OwnW wr (g8 + 1) A3 c3 zs ∧ (∀ p ∈ zs, IsBytes p.1.body p.2 w) ∧ Own w wr [(w.heap.size, 25, #[.int .i64 x1, .int .i64 x2, .int .i64 x3, .int .i64 x4, .slice A n c]), (w.heap.size + 1, 25, #[.int .i64 0, .int .i64 0, .int .i64 0, .int .i64 0, .slice none 0 0]), (g7, 25, #[.int .i64 x1, .int .i64 x2, .int .i64 x3, .int .i64 x4, .slice A3 m c3]), (g8, 35, #[.int .i64 t, .int .i64 (now + x1), .int .i64 0, .slice Ab0 nb cb0])]) (fun i _ _ => n - (intOf i).toNat)
  case atStart => exact ⟨0, 0, none, 0, [], Nat.zero_le _, rfl, by simp, rfl, by rw [scanW_zero]; rfl, OwnW.nil _ _, fun p hp => absurd hp List.not_mem_nil, hO⟩
  case round =>
    clear hO
    obtain ⟨k, m, A3, c3, zs, hk, rfl, rfl, hzl, hzs, hOw, hbd, hO⟩ := hrel
    have hmk : m ≤ k + 1 := by rw [← hzl, ← List.length_map (f := (·.1)), hzs]; exact scanW_len _ _ _ _
    have HZ := Lib.hid hzs
    have HZL := Lib.hid hzl
    clear hzs hzl
    have hcl := hO.b0.cell
    have hcl2 := hO.b2.cell
    have hcl3 := hO.b3.cell
    by_cases hlt : k < n
    · obtain ⟨x, Ab, cb, b, off, hwk, hxk, rfl, hbl, hc0, hc1, hc2, hc3, hB⟩ := hW.get (k := k) HX.out (by have h1 := HN.out; omega)
      have hc0r := (hO.below.cell (p := ⟨b, off + k * 4, none⟩) hbl).trans hc0
      have hbx := hW.body _ (List.mem_of_getElem? hxk)
      have HBX := Lib.hid hbx
      have HWK := Lib.hid hwk
      have hsd := HSD.out k x hwk
      clear hwk hxk hbx hB
      have hlv : k < fi ∨ k = fi ∨ fi < k := by omega
      rcases hlv with hlv | rfl | hlv
      · have HS2 := Lib.hid (scanW_before (x := ⟨t, now + x1, 0, body⟩) HWK.out hlv)
        have hf1 : decide (fi < k) = false := by simp; omega
        have HF := Lib.hid (show decide (fi < k + 1) = false by simp; omega)
        have hgt : decide (t < x.t) = false := by have := hsd.1 hlv; simp; omega
        clear hsd hlv
        go_wp2_with fail
        have hRx : ∀ g, rowOf A3 = some g → w.heap.size ≤ g ∧ ∀ y ∈ [((w.heap.size, 25, #[.int .i64 x1, .int .i64 x2, .int .i64 x3, .int .i64 x4, .slice (some ⟨b, off, none⟩) n c]) : Bk), (w.heap.size + 1, 25, #[.int .i64 0, .int .i64 0, .int .i64 0, .int .i64 0, .slice none 0 0]), (g7, 25, #[.int .i64 x1, .int .i64 x2, .int .i64 x3, .int .i64 x4, .slice A3 m c3]), (g8, 35, #[.int .i64 t, .int .i64 (now + x1), .int .i64 0, .slice Ab0 nb cb0])], y.1 ≠ g := fun g hg => by
          have := (hOw.row_ge g hg).1
          exact ⟨by omega, fun y hy => by simp at hy; rcases hy with rfl | rfl | rfl | rfl <;> simp <;> omega⟩
        apply wp_region_lextl (fun w w' => w.grownBy w' (rowOf A3)) (fun w => grown_of_below (below_drewN (Below.refl _ _) 1) _) (fun _ _ _ => grownBy_trans) (WaysR (rowOf A3) 8) (fun _ _ _ h => h.2) (fun i W => i = 8 → OwnW W (g8 + 1) A3 c3 zs) (fun _ _ => hOw.below (below_drewN (Below.refl _ _) 1)) (fun i j W W' hij hp ht hi => (hp hi).below (ht.1 (fun h => hij (hi.trans h.symm))))
        case hFl =>
          intro u
          simp only [List.map, fill, Act.put, List.setIfInBounds_toArray, List.set_cons_zero, List.set_cons_succ, Nat.reduceAdd, Nat.zero_add]
          rfl
        case hm => kernel_rfl
        case hB => kernel_rfl
        case hA => kernel_rfl
        case hap => kernel_rfl
        iterate 6 (
          apply LexTL.is
          · (intro u w' hk hpre hd
             simp [Waited, Region.binds, Is] at hd
             refine lookedT_want (by first | rfl | simp [Region.wanted, yielded, hd]) ?_
             intro K hK
             have hO' := hO.grownBy hk hRx; have hcl := hO'.b0.cell; have hcl2 := hO'.b2.cell
             go_wp2_with fail
             try simp only [hd] at hK
             refine hK _ _ ?_ rfl
             exact waysR_same _ _ _ _)
          )
        apply LexTL.is
        · (intro u w' hk hpre hd
           simp [Waited, Region.binds, Is] at hd
           refine lookedT_want (by first | rfl | simp [Region.wanted, yielded, hd]) ?_
           intro K hK
           have hO' := (hO.grownBy hk hRx).below; have hc0' := (hO'.cell (p := ⟨b, off + k * 4, none⟩) hbl).trans hc0; have hc1' := (hO'.cell (p := ⟨b, off + k * 4 + 1, none⟩) hbl).trans hc1; have hc2' := (hO'.cell (p := ⟨b, off + k * 4 + 2, none⟩) hbl).trans hc2; have hc3' := (hO'.cell (p := ⟨b, off + k * 4 + 3, none⟩) hbl).trans hc3
           go_wp2_with fail
           try simp only [hd] at hK
           refine hK _ _ ?_ rfl
           exact waysR_same _ _ _ _)
        refine LexTL.word (MsgX (rowOf A3) #[.int .i64 x.t, .int .i64 x.due, .int .i64 x.tries, .slice Ab x.body.length cb]) ?_ ?_
        · (intro u w' hk hpre hd
           simp [Waited, Region.binds, Is] at hd
           refine lookedT_want (by first | rfl | simp [Region.wanted, yielded]) ?_
           intro K hK
           go_wp2_with fail
           try simp only [hd] at hK
           exact hK _ _ (waysR_below ((Below.refl _ _).alloc (Nat.le_refl _) _)) ⟨w'.heap.size, rfl, Blk.new _ _ _, fun e => by have := (hOw.row_ge _ e).2; have := hk.size; omega⟩)
        refine LexTL.word (RowX (g8 + 1) (m + 1) (zs ++ [(x, .slice Ab x.body.length cb)])) ?_ ?_
        · (intro u w' hk hpre hd
           simp [Waited, Region.binds, Is] at hd
           obtain ⟨q1, hx⟩ := hd
           refine lookedT_want (by first | rfl | simp [Region.wanted, yielded]) ?_
           intro K hK
           exact wp_app_waits (.tmp 86) (.tmp 92) rfl (g8 + 1) A3 c3 zs m (by rw [← q1]; rfl) HZL.out.symm (hpre rfl) x (.slice Ab x.body.length cb) rfl (rowOf A3) _ rfl hx (by omega) (Nat.le_trans (hO.b3.lt) hk.size) fun z W hz hg => hK _ _ ⟨fun h => absurd rfl h, hg⟩ hz)
        apply LexTL.is
        · (intro u w' hk hpre hd
           simp [Waited, Region.binds, Is] at hd
           refine lookedT_want (by first | rfl | simp [Region.wanted, yielded, hd]) ?_
           intro K hK
           skip
           go_wp2_with fail
           try simp only [hd] at hK
           refine hK _ _ ?_ rfl
           exact waysR_same _ _ _ _)
        refine LexTL.last ?_ ?_
        · intro i' j Φ hij _ hj v W W' hΦ ht
          rcases j with _ | _ | _ | _ | _ | _ | _ | _ | _ | _ | j
          all_goals simp only [List.nil_append, List.cons_append, List.getElem?_cons_zero, List.getElem?_cons_succ, List.getElem?_nil, Option.some.injEq, reduceCtorEq] at hj
          all_goals subst hj
          · exact hΦ
          · exact hΦ
          · exact hΦ
          · exact hΦ
          · exact hΦ
          · exact hΦ
          · exact hΦ
          · exact MsgX.grownO hΦ ht.2
          · exact RowX.grow hΦ (ht.1 hij)
          · exact hΦ
        intro u w2 hk2 _ hd
        simp only [List.nil_append, List.cons_append] at hd
        have hu9 := hd 9 _ rfl
        obtain ⟨A4, c4, hu8, hOw4⟩ := hd 8 _ rfl
        simp only [Is] at hu9
        clear hd
        refine ⟨rfl, ?_⟩
        intro K hK
        have hO2 := hO.grownBy hk2 hRx
        refine wp_store_cell1 23 (.tmp 94) (.tmp 93) rfl g7 4 (by rw [← hu9]; rfl) (.slice A4 (m + 1) c4) (by rw [← hu8]; rfl) 25 _ hO2.b2 (by simp) (by kernel_rfl) rfl (hK _ _ ?_)
        replace hOw4 := hOw4.far (g := g7) (by omega) (fun k hk => Below.heap_setCell w2 ⟨g7, 4, none⟩ (.slice A4 (m + 1) c4) k hk)
        have hO4 := Own.cell2 hO2 4 (.slice A4 (m + 1) c4)
        clear hO2 hu8 hu9 hK hk2 hOw hRx hO hcl hcl2 hc0r
        generalize w2.setCell ⟨g7, 4, none⟩ (.slice A4 (m + 1) c4) = w4 at *
        go_wp2_with fail
        go_roundw
        case rel => exact ⟨k + 1, m + 1, A4, c4, _, by omega, by go_num, by rw [HF.out], by rw [List.length_append, HZL.out]; rfl, by rw [List.map_append, HZ.out]; exact HS2.out.symm, hOw4, fun p hp => by
          rcases List.mem_append.1 hp with h | h
          · exact hbd p h
          · simp at h; subst h; exact HBX.out, hO4⟩
        case measure => simp [intOf]; omega
      · have HS2 := Lib.hid (scanW_at (x := ⟨t, now + x1, 0, body⟩) HWK.out)
        have hf1 : decide (k < k) = false := by simp
        have HF := Lib.hid (show decide (k < k + 1) = true by simp)
        have hgt : decide (t < x.t) = true := by have := hsd.2 (Nat.le_refl _); simp; omega
        clear hsd
        have hRx : ∀ g, rowOf A3 = some g → w.heap.size ≤ g ∧ ∀ y ∈ [((w.heap.size, 25, #[.int .i64 x1, .int .i64 x2, .int .i64 x3, .int .i64 x4, .slice (some ⟨b, off, none⟩) n c]) : Bk), (w.heap.size + 1, 25, #[.int .i64 0, .int .i64 0, .int .i64 0, .int .i64 0, .slice none 0 0]), (g7, 25, #[.int .i64 x1, .int .i64 x2, .int .i64 x3, .int .i64 x4, .slice A3 m c3]), (g8, 35, #[.int .i64 t, .int .i64 (now + x1), .int .i64 0, .slice Ab0 nb cb0])], y.1 ≠ g := fun g hg => by
          have := (hOw.row_ge g hg).1
          exact ⟨by omega, fun y hy => by simp at hy; rcases hy with rfl | rfl | rfl | rfl <;> simp <;> omega⟩
        go_wp2_with (first
          | ((with_reducible refine own_loadg3 hO ?_ _ rfl rfl _ Try.underlying35 rfl (by kernel_rfl) ?_); (· first | rfl | (simp [Region.wanted, yielded]; done)))
          | (at_builtin; refine wpList_app_waits rfl _ _ rfl (g8 + 1) A3 c3 zs m rfl HZL.out.symm (hOw.alloc _) (some ⟨wr.heap.size, 0, none⟩) 1 [(⟨t, now + x1, 0, body⟩, .slice Ab0 nb cb0)] 1 rfl rfl (Row.block (Blk.new wr 35 #[.int .i64 t, .int .i64 (now + x1), .int .i64 0, .slice Ab0 nb cb0])) (fun p hp => by simp at hp; subst hp; rfl) (by have := HZL.out; simp; omega) (by have := hO.b3.lt; simp; omega) ?_; intro A5 c5 W5 hOw5 hg5 hb5; replace hO := (hO.grow ((Below.refl _ _).alloc (Nat.le_refl _) _)).grownBy hg5 hRx; clear hOw hRx hcl hcl2 hcl3 hc0r; have hcl5 := hO.b2.cell)
          | ((with_reducible refine own_cell2 4 (.slice A5 (m + 1) c5) hO rfl 23 _ _ rfl rfl rfl (by kernel_rfl) ?_ rfl ?_); (· (simp; done)); intro wR hOR hszR hkR; replace hOw5 := hOw5.far (g := g7) (by omega) hkR; replace hO := hOR; clear hOR hszR hkR hcl5))
        have hm5 : m + 1 ≤ k + 2 := by omega
        have HZL5 := Lib.hid (show (zs ++ [((⟨t, now + x1, 0, body⟩ : Wt), Value.slice Ab0 nb cb0)]).length = m + 1 by rw [List.length_append, HZL.out]; rfl)
        have HZ5 := Lib.hid (show (zs ++ [((⟨t, now + x1, 0, body⟩ : Wt), Value.slice Ab0 nb cb0)]).map (·.1) = scanW ws k ⟨t, now + x1, 0, body⟩ k ++ [⟨t, now + x1, 0, body⟩] by rw [List.map_append, HZ.out]; rfl)
        have hbd5 : ∀ p ∈ zs ++ [((⟨t, now + x1, 0, body⟩ : Wt), Value.slice Ab0 nb cb0)], IsBytes p.1.body p.2 w := fun p hp => by
          rcases List.mem_append.1 hp with h | h
          · exact hbd p h
          · simp at h; subst h; exact hBI
        replace hO : Own w wR [(w.heap.size, 25, #[.int .i64 x1, .int .i64 x2, .int .i64 x3, .int .i64 x4, .slice (some ⟨b, off, none⟩) n c]), (w.heap.size + 1, 25, #[.int .i64 0, .int .i64 0, .int .i64 0, .int .i64 0, .slice none 0 0]), (g7, 25, #[.int .i64 x1, .int .i64 x2, .int .i64 x3, .int .i64 x4, .slice A5 (m + 1) c5]), (g8, 35, #[.int .i64 t, .int .i64 (now + x1), .int .i64 0, .slice Ab0 nb cb0])] := hO
        clear HZL HZ hbd hmk hb5 hg5
        generalize zs ++ [((⟨t, now + x1, 0, body⟩ : Wt), Value.slice Ab0 nb cb0)] = zs at *
        generalize m + 1 = m at *
        generalize A5 = A3 at *
        generalize c5 = c3 at *
        have HZL := HZL5
        have HZ := HZ5
        have hbd := hbd5
        have hmk := hm5
        have hOw := hOw5
        clear HZL5 HZ5 hbd5 hm5 hOw5
        have hcl := hO.b0.cell
        have hcl2 := hO.b2.cell
        have hc0r := (hO.below.cell (p := ⟨b, off + k * 4, none⟩) hbl).trans hc0
        go_wp2_with fail
        have hRx : ∀ g, rowOf A3 = some g → w.heap.size ≤ g ∧ ∀ y ∈ [((w.heap.size, 25, #[.int .i64 x1, .int .i64 x2, .int .i64 x3, .int .i64 x4, .slice (some ⟨b, off, none⟩) n c]) : Bk), (w.heap.size + 1, 25, #[.int .i64 0, .int .i64 0, .int .i64 0, .int .i64 0, .slice none 0 0]), (g7, 25, #[.int .i64 x1, .int .i64 x2, .int .i64 x3, .int .i64 x4, .slice A3 m c3]), (g8, 35, #[.int .i64 t, .int .i64 (now + x1), .int .i64 0, .slice Ab0 nb cb0])], y.1 ≠ g := fun g hg => by
          have := (hOw.row_ge g hg).1
          exact ⟨by omega, fun y hy => by simp at hy; rcases hy with rfl | rfl | rfl | rfl <;> simp <;> omega⟩
        apply wp_region_lextl (fun w w' => w.grownBy w' (rowOf A3)) (fun w => grown_of_below (below_drewN (Below.refl _ _) 1) _) (fun _ _ _ => grownBy_trans) (WaysR (rowOf A3) 8) (fun _ _ _ h => h.2) (fun i W => i = 8 → OwnW W (g8 + 1) A3 c3 zs) (fun _ _ => hOw.below (below_drewN (Below.refl _ _) 1)) (fun i j W W' hij hp ht hi => (hp hi).below (ht.1 (fun h => hij (hi.trans h.symm))))
        case hFl =>
          intro u
          simp only [List.map, fill, Act.put, List.setIfInBounds_toArray, List.set_cons_zero, List.set_cons_succ, Nat.reduceAdd, Nat.zero_add]
          rfl
        case hm => kernel_rfl
        case hB => kernel_rfl
        case hA => kernel_rfl
        case hap => kernel_rfl
        iterate 6 (
          apply LexTL.is
          · (intro u w' hk hpre hd
             simp [Waited, Region.binds, Is] at hd
             refine lookedT_want (by first | rfl | simp [Region.wanted, yielded, hd]) ?_
             intro K hK
             have hO' := hO.grownBy hk hRx; have hcl := hO'.b0.cell; have hcl2 := hO'.b2.cell
             go_wp2_with fail
             try simp only [hd] at hK
             refine hK _ _ ?_ rfl
             exact waysR_same _ _ _ _)
          )
        apply LexTL.is
        · (intro u w' hk hpre hd
           simp [Waited, Region.binds, Is] at hd
           refine lookedT_want (by first | rfl | simp [Region.wanted, yielded, hd]) ?_
           intro K hK
           have hO' := (hO.grownBy hk hRx).below; have hc0' := (hO'.cell (p := ⟨b, off + k * 4, none⟩) hbl).trans hc0; have hc1' := (hO'.cell (p := ⟨b, off + k * 4 + 1, none⟩) hbl).trans hc1; have hc2' := (hO'.cell (p := ⟨b, off + k * 4 + 2, none⟩) hbl).trans hc2; have hc3' := (hO'.cell (p := ⟨b, off + k * 4 + 3, none⟩) hbl).trans hc3
           go_wp2_with fail
           try simp only [hd] at hK
           refine hK _ _ ?_ rfl
           exact waysR_same _ _ _ _)
        refine LexTL.word (MsgX (rowOf A3) #[.int .i64 x.t, .int .i64 x.due, .int .i64 x.tries, .slice Ab x.body.length cb]) ?_ ?_
        · (intro u w' hk hpre hd
           simp [Waited, Region.binds, Is] at hd
           refine lookedT_want (by first | rfl | simp [Region.wanted, yielded]) ?_
           intro K hK
           go_wp2_with fail
           try simp only [hd] at hK
           exact hK _ _ (waysR_below ((Below.refl _ _).alloc (Nat.le_refl _) _)) ⟨w'.heap.size, rfl, Blk.new _ _ _, fun e => by have := (hOw.row_ge _ e).2; have := hk.size; omega⟩)
        refine LexTL.word (RowX (g8 + 1) (m + 1) (zs ++ [(x, .slice Ab x.body.length cb)])) ?_ ?_
        · (intro u w' hk hpre hd
           simp [Waited, Region.binds, Is] at hd
           obtain ⟨q1, hx⟩ := hd
           refine lookedT_want (by first | rfl | simp [Region.wanted, yielded]) ?_
           intro K hK
           exact wp_app_waits (.tmp 86) (.tmp 92) rfl (g8 + 1) A3 c3 zs m (by rw [← q1]; rfl) HZL.out.symm (hpre rfl) x (.slice Ab x.body.length cb) rfl (rowOf A3) _ rfl hx (by omega) (Nat.le_trans (hO.b3.lt) hk.size) fun z W hz hg => hK _ _ ⟨fun h => absurd rfl h, hg⟩ hz)
        apply LexTL.is
        · (intro u w' hk hpre hd
           simp [Waited, Region.binds, Is] at hd
           refine lookedT_want (by first | rfl | simp [Region.wanted, yielded, hd]) ?_
           intro K hK
           skip
           go_wp2_with fail
           try simp only [hd] at hK
           refine hK _ _ ?_ rfl
           exact waysR_same _ _ _ _)
        refine LexTL.last ?_ ?_
        · intro i' j Φ hij _ hj v W W' hΦ ht
          rcases j with _ | _ | _ | _ | _ | _ | _ | _ | _ | _ | j
          all_goals simp only [List.nil_append, List.cons_append, List.getElem?_cons_zero, List.getElem?_cons_succ, List.getElem?_nil, Option.some.injEq, reduceCtorEq] at hj
          all_goals subst hj
          · exact hΦ
          · exact hΦ
          · exact hΦ
          · exact hΦ
          · exact hΦ
          · exact hΦ
          · exact hΦ
          · exact MsgX.grownO hΦ ht.2
          · exact RowX.grow hΦ (ht.1 hij)
          · exact hΦ
        intro u w2 hk2 _ hd
        simp only [List.nil_append, List.cons_append] at hd
        have hu9 := hd 9 _ rfl
        obtain ⟨A4, c4, hu8, hOw4⟩ := hd 8 _ rfl
        simp only [Is] at hu9
        clear hd
        refine ⟨rfl, ?_⟩
        intro K hK
        have hO2 := hO.grownBy hk2 hRx
        refine wp_store_cell1 23 (.tmp 94) (.tmp 93) rfl g7 4 (by rw [← hu9]; rfl) (.slice A4 (m + 1) c4) (by rw [← hu8]; rfl) 25 _ hO2.b2 (by simp) (by kernel_rfl) rfl (hK _ _ ?_)
        replace hOw4 := hOw4.far (g := g7) (by omega) (fun k hk => Below.heap_setCell w2 ⟨g7, 4, none⟩ (.slice A4 (m + 1) c4) k hk)
        have hO4 := Own.cell2 hO2 4 (.slice A4 (m + 1) c4)
        clear hO2 hu8 hu9 hK hk2 hOw hRx hO hcl hcl2 hc0r
        generalize w2.setCell ⟨g7, 4, none⟩ (.slice A4 (m + 1) c4) = w4 at *
        go_wp2_with fail
        go_roundw
        case rel => exact ⟨k + 1, m + 1, A4, c4, _, by omega, by go_num, by rw [HF.out], by rw [List.length_append, HZL.out]; rfl, by rw [List.map_append, HZ.out]; exact HS2.out.symm, hOw4, fun p hp => by
          rcases List.mem_append.1 hp with h | h
          · exact hbd p h
          · simp at h; subst h; exact HBX.out, hO4⟩
        case measure => simp [intOf]; omega
      · have HS2 := Lib.hid (scanW_behind (x := ⟨t, now + x1, 0, body⟩) HWK.out hlv)
        have hf1 : decide (fi < k) = true := by simp; omega
        have HF := Lib.hid (show decide (fi < k + 1) = true by simp; omega)
        clear hsd hlv
        go_wp2_with fail
        have hRx : ∀ g, rowOf A3 = some g → w.heap.size ≤ g ∧ ∀ y ∈ [((w.heap.size, 25, #[.int .i64 x1, .int .i64 x2, .int .i64 x3, .int .i64 x4, .slice (some ⟨b, off, none⟩) n c]) : Bk), (w.heap.size + 1, 25, #[.int .i64 0, .int .i64 0, .int .i64 0, .int .i64 0, .slice none 0 0]), (g7, 25, #[.int .i64 x1, .int .i64 x2, .int .i64 x3, .int .i64 x4, .slice A3 m c3]), (g8, 35, #[.int .i64 t, .int .i64 (now + x1), .int .i64 0, .slice Ab0 nb cb0])], y.1 ≠ g := fun g hg => by
          have := (hOw.row_ge g hg).1
          exact ⟨by omega, fun y hy => by simp at hy; rcases hy with rfl | rfl | rfl | rfl <;> simp <;> omega⟩
        apply wp_region_lextl (fun w w' => w.grownBy w' (rowOf A3)) (fun w => grown_of_below (below_drewN (Below.refl _ _) 1) _) (fun _ _ _ => grownBy_trans) (WaysR (rowOf A3) 8) (fun _ _ _ h => h.2) (fun i W => i = 8 → OwnW W (g8 + 1) A3 c3 zs) (fun _ _ => hOw.below (below_drewN (Below.refl _ _) 1)) (fun i j W W' hij hp ht hi => (hp hi).below (ht.1 (fun h => hij (hi.trans h.symm))))
        case hFl =>
          intro u
          simp only [List.map, fill, Act.put, List.setIfInBounds_toArray, List.set_cons_zero, List.set_cons_succ, Nat.reduceAdd, Nat.zero_add]
          rfl
        case hm => kernel_rfl
        case hB => kernel_rfl
        case hA => kernel_rfl
        case hap => kernel_rfl
        iterate 6 (
          apply LexTL.is
          · (intro u w' hk hpre hd
             simp [Waited, Region.binds, Is] at hd
             refine lookedT_want (by first | rfl | simp [Region.wanted, yielded, hd]) ?_
             intro K hK
             have hO' := hO.grownBy hk hRx; have hcl := hO'.b0.cell; have hcl2 := hO'.b2.cell
             go_wp2_with fail
             try simp only [hd] at hK
             refine hK _ _ ?_ rfl
             exact waysR_same _ _ _ _)
          )
        apply LexTL.is
        · (intro u w' hk hpre hd
           simp [Waited, Region.binds, Is] at hd
           refine lookedT_want (by first | rfl | simp [Region.wanted, yielded, hd]) ?_
           intro K hK
           have hO' := (hO.grownBy hk hRx).below; have hc0' := (hO'.cell (p := ⟨b, off + k * 4, none⟩) hbl).trans hc0; have hc1' := (hO'.cell (p := ⟨b, off + k * 4 + 1, none⟩) hbl).trans hc1; have hc2' := (hO'.cell (p := ⟨b, off + k * 4 + 2, none⟩) hbl).trans hc2; have hc3' := (hO'.cell (p := ⟨b, off + k * 4 + 3, none⟩) hbl).trans hc3
           go_wp2_with fail
           try simp only [hd] at hK
           refine hK _ _ ?_ rfl
           exact waysR_same _ _ _ _)
        refine LexTL.word (MsgX (rowOf A3) #[.int .i64 x.t, .int .i64 x.due, .int .i64 x.tries, .slice Ab x.body.length cb]) ?_ ?_
        · (intro u w' hk hpre hd
           simp [Waited, Region.binds, Is] at hd
           refine lookedT_want (by first | rfl | simp [Region.wanted, yielded]) ?_
           intro K hK
           go_wp2_with fail
           try simp only [hd] at hK
           exact hK _ _ (waysR_below ((Below.refl _ _).alloc (Nat.le_refl _) _)) ⟨w'.heap.size, rfl, Blk.new _ _ _, fun e => by have := (hOw.row_ge _ e).2; have := hk.size; omega⟩)
        refine LexTL.word (RowX (g8 + 1) (m + 1) (zs ++ [(x, .slice Ab x.body.length cb)])) ?_ ?_
        · (intro u w' hk hpre hd
           simp [Waited, Region.binds, Is] at hd
           obtain ⟨q1, hx⟩ := hd
           refine lookedT_want (by first | rfl | simp [Region.wanted, yielded]) ?_
           intro K hK
           exact wp_app_waits (.tmp 86) (.tmp 92) rfl (g8 + 1) A3 c3 zs m (by rw [← q1]; rfl) HZL.out.symm (hpre rfl) x (.slice Ab x.body.length cb) rfl (rowOf A3) _ rfl hx (by omega) (Nat.le_trans (hO.b3.lt) hk.size) fun z W hz hg => hK _ _ ⟨fun h => absurd rfl h, hg⟩ hz)
        apply LexTL.is
        · (intro u w' hk hpre hd
           simp [Waited, Region.binds, Is] at hd
           refine lookedT_want (by first | rfl | simp [Region.wanted, yielded, hd]) ?_
           intro K hK
           skip
           go_wp2_with fail
           try simp only [hd] at hK
           refine hK _ _ ?_ rfl
           exact waysR_same _ _ _ _)
        refine LexTL.last ?_ ?_
        · intro i' j Φ hij _ hj v W W' hΦ ht
          rcases j with _ | _ | _ | _ | _ | _ | _ | _ | _ | _ | j
          all_goals simp only [List.nil_append, List.cons_append, List.getElem?_cons_zero, List.getElem?_cons_succ, List.getElem?_nil, Option.some.injEq, reduceCtorEq] at hj
          all_goals subst hj
          · exact hΦ
          · exact hΦ
          · exact hΦ
          · exact hΦ
          · exact hΦ
          · exact hΦ
          · exact hΦ
          · exact MsgX.grownO hΦ ht.2
          · exact RowX.grow hΦ (ht.1 hij)
          · exact hΦ
        intro u w2 hk2 _ hd
        simp only [List.nil_append, List.cons_append] at hd
        have hu9 := hd 9 _ rfl
        obtain ⟨A4, c4, hu8, hOw4⟩ := hd 8 _ rfl
        simp only [Is] at hu9
        clear hd
        refine ⟨rfl, ?_⟩
        intro K hK
        have hO2 := hO.grownBy hk2 hRx
        refine wp_store_cell1 23 (.tmp 94) (.tmp 93) rfl g7 4 (by rw [← hu9]; rfl) (.slice A4 (m + 1) c4) (by rw [← hu8]; rfl) 25 _ hO2.b2 (by simp) (by kernel_rfl) rfl (hK _ _ ?_)
        replace hOw4 := hOw4.far (g := g7) (by omega) (fun k hk => Below.heap_setCell w2 ⟨g7, 4, none⟩ (.slice A4 (m + 1) c4) k hk)
        have hO4 := Own.cell2 hO2 4 (.slice A4 (m + 1) c4)
        clear hO2 hu8 hu9 hK hk2 hOw hRx hO hcl hcl2 hc0r
        generalize w2.setCell ⟨g7, 4, none⟩ (.slice A4 (m + 1) c4) = w4 at *
        go_wp2_with fail
        go_roundw
        case rel => exact ⟨k + 1, m + 1, A4, c4, _, by omega, by go_num, by rw [HF.out], by rw [List.length_append, HZL.out]; rfl, by rw [List.map_append, HZ.out]; exact HS2.out.symm, hOw4, fun p hp => by
          rcases List.mem_append.1 hp with h | h
          · exact hbd p h
          · simp at h; subst h; exact HBX.out, hO4⟩
        case measure => simp [intOf]; omega
    · obtain rfl : k = n := by omega
      have hend := scanW_end (ws := ws) (i := fi) (x := ⟨t, now + x1, 0, body⟩) (by rw [HN.out]; exact HFL.out)
      rw [HN.out] at hend
      have HE := Lib.hid hend
      clear hend
      by_cases hin : fi < k
      · have hf1 : decide (fi < k) = true := by simpa using hin
        have HZE := Lib.hid (HZ.out.trans ((if_pos hin).symm.trans HE.out))
        clear hin
        go_wp2_with (first
          | ((with_reducible refine own_loadg2 hO ?_ _ rfl rfl _ Try.underlying25 rfl (by kernel_rfl) ?_); (· first | rfl | (simp [Region.wanted, yielded]; done)))
          | ((with_reducible refine own_row1 #[.int .i64 x1, .int .i64 x2, .int .i64 x3, .int .i64 x4, .slice A3 m c3] hO rfl _ _ rfl rfl rfl (by kernel_rfl) rfl ?_ ?_); (· (simp [Value.oneCell']; done)); intro wR hOR hszR hkR; replace hOw := hOw.far (g := w.heap.size + 1) (by omega) hkR; replace hO := hOR; clear hOR hszR hkR))
        exact bodyPost_ret (results_ct Try.results17 _ _ _ _ _ _ rfl rfl hO.b1 Try.underlying25 rfl (by kernel_rfl)) rfl ⟨_, rfl, ⟨_, rfl, (OwnV.is ⟨hOw, fun p hp => (hbd p hp).grow hO.below⟩ HZE.out (by rw [← HZE.out, List.length_map]; exact HZL.out))⟩, hO.below⟩
      · have hf1 : decide (fi < k) = false := by simpa using hin
        have HE2 := Lib.hid ((if_neg hin).symm.trans HE.out)
        clear hin HE
        have hRx : ∀ g, rowOf A3 = some g → w.heap.size ≤ g ∧ ∀ y ∈ [((w.heap.size, 25, #[.int .i64 x1, .int .i64 x2, .int .i64 x3, .int .i64 x4, .slice A k c]) : Bk), (w.heap.size + 1, 25, #[.int .i64 0, .int .i64 0, .int .i64 0, .int .i64 0, .slice none 0 0]), (g7, 25, #[.int .i64 x1, .int .i64 x2, .int .i64 x3, .int .i64 x4, .slice A3 m c3]), (g8, 35, #[.int .i64 t, .int .i64 (now + x1), .int .i64 0, .slice Ab0 nb cb0])], y.1 ≠ g := fun g hg => by
          have := (hOw.row_ge g hg).1
          exact ⟨by omega, fun y hy => by simp at hy; rcases hy with rfl | rfl | rfl | rfl <;> simp <;> omega⟩
        go_wp2_with (first
          | ((with_reducible refine own_loadg3 hO ?_ _ rfl rfl _ Try.underlying35 rfl (by kernel_rfl) ?_); (· first | rfl | (simp [Region.wanted, yielded]; done)))
          | (at_builtin; refine wpList_app_waits rfl _ _ rfl (g8 + 1) A3 c3 zs m rfl HZL.out.symm (hOw.alloc _) (some ⟨wr.heap.size, 0, none⟩) 1 [(⟨t, now + x1, 0, body⟩, .slice Ab0 nb cb0)] 1 rfl rfl (Row.block (Blk.new wr 35 #[.int .i64 t, .int .i64 (now + x1), .int .i64 0, .slice Ab0 nb cb0])) (fun p hp => by simp at hp; subst hp; rfl) (by have := HZL.out; simp; omega) (by have := hO.b3.lt; simp; omega) ?_; intro A5 c5 W5 hOw5 hg5 hb5; replace hO := (hO.grow ((Below.refl _ _).alloc (Nat.le_refl _) _)).grownBy hg5 hRx; clear hOw hRx hcl hcl2 hcl3; have hcl5 := hO.b2.cell)
          | ((with_reducible refine own_cell2 4 (.slice A5 (m + 1) c5) hO rfl 23 _ _ rfl rfl rfl (by kernel_rfl) ?_ rfl ?_); (· (simp; done)); intro wR hOR hszR hkR; replace hOw5 := hOw5.far (g := g7) (by omega) hkR; replace hO := hOR; clear hOR hszR hkR hcl5)
          | ((with_reducible refine own_loadg2 hO ?_ _ rfl rfl _ Try.underlying25 rfl (by kernel_rfl) ?_); (· first | rfl | (simp [Region.wanted, yielded]; done)))
          | ((with_reducible refine own_row1 #[.int .i64 x1, .int .i64 x2, .int .i64 x3, .int .i64 x4, .slice A5 (m + 1) c5] hO rfl _ _ rfl rfl rfl (by kernel_rfl) rfl ?_ ?_); (· (simp [Value.oneCell']; done)); intro wR hOR hszR hkR; replace hOw5 := hOw5.far (g := w.heap.size + 1) (by omega) hkR; replace hO := hOR; clear hOR hszR hkR))
        have HZE := Lib.hid (show (zs ++ [((⟨t, now + x1, 0, body⟩ : Wt), Value.slice Ab0 nb cb0)]).map (·.1) = _ from (by rw [List.map_append, HZ.out]; rfl : _ = scanW ws fi ⟨t, now + x1, 0, body⟩ k ++ [⟨t, now + x1, 0, body⟩]).trans HE2.out)
        have hbd5 : ∀ p ∈ zs ++ [((⟨t, now + x1, 0, body⟩ : Wt), Value.slice Ab0 nb cb0)], IsBytes p.1.body p.2 w := fun p hp => by
          rcases List.mem_append.1 hp with h | h
          · exact hbd p h
          · simp at h; subst h; exact hBI
        exact bodyPost_ret (results_ct Try.results17 _ _ _ _ _ _ rfl rfl hO.b1 Try.underlying25 rfl (by kernel_rfl)) rfl ⟨_, rfl, ⟨_, rfl, (OwnV.is ⟨hOw5, fun p hp => (hbd5 p hp).grow hO.below⟩ HZE.out (by rw [← HZE.out, List.length_map, List.length_append, HZL.out]; rfl))⟩, hO.below⟩
theorem rlsent_k (l : Lk) (A : Option Addr) (n c : Nat) (xs : List (Wt × Value)) (t now : Int) (Ab0 : Option Addr) (nb cb0 : Nat) (body : List UInt8) (w : World) (hx : xs.map (·.1) = l.waits) (hn : l.waits.length = n) (hW : WaitsAt w A xs) (hc : n ≤ 9223372036854775807) (hbn : body.length = nb) (hB : Bytes w Ab0 cb0 body) :
    Calls Try.prog 17 #[.agg #[.int .i64 l.period, .int .i64 l.most, .int .i64 l.quiet, .int .i64 l.heard, .slice A n c], .int .i64 t, .int .i64 now, .slice Ab0 nb cb0] w (RetR (sentL l t now body) (sentE l t now body) w) := by
  unfold sentL
  by_cases he : sentE l t now body = 0
  · rw [if_pos he, he]
    exact rlsent_ok l A n c xs t now Ab0 nb cb0 body w hx hn hW hc hbn hB he
  · rw [if_neg he]
    exact rlsent_bad l A n c xs t now Ab0 nb cb0 body w hx hn hW hc hbn hB he
end Go.Proofs.Ytiloammjejggjaa
