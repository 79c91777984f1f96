/- Texts in one: PlanMay Extent PlaceB. -/
import Derived.Test.YtpjdcpicfkdioaaGreatDoorK17
import Derived.Test.YtpjdcpicfkdioaaGreatDoorK16
/- plan.May: may an authority be. -/
set_option linter.unusedSimpArgs false
set_option linter.unusedVariables false
namespace Go.Proofs.YtpjdcpicfkdioaaGreatDoor
open Go.RowKit Go.Shelf

theorem may_parts {t : Tp} {m : Ma} (h : mayP t m = true) : checkT t = 0 ∧ m.path.length ≤ 24 ∧ twiceP [] m.path = false ∧ 1 ≤ m.sects.length ∧ m.sects.length ≤ 8 ∧ 0 ≤ m.gap ∧ m.gap ≤ 1099511627776 ∧ sectsP 0 m.sects = true ∧ ∃ x, leftP t m = some x ∧ lastP m + m.gap ≤ x.1 := by
  unfold mayP at h
  simp only [Bool.and_eq_true, decide_eq_true_eq, Bool.not_eq_true'] at h
  obtain ⟨⟨⟨⟨⟨⟨⟨⟨h1, h2⟩, h3⟩, h4⟩, h5⟩, h6⟩, h7⟩, h8⟩, h9⟩ := h
  refine ⟨h1, h2, h3, h4, h5, h6, h7, h8, ?_⟩
  cases hx : leftP t m with
  | none => rw [hx] at h9; cases h9
  | some x => rw [hx] at h9; exact ⟨x, rfl, by simpa using h9⟩
theorem may_of {t : Tp} {m : Ma} {x : Int × Int} (h1 : checkT t = 0) (h2 : m.path.length ≤ 24) (h3 : twiceP [] m.path = false) (h4 : 1 ≤ m.sects.length) (h5 : m.sects.length ≤ 8) (h6 : 0 ≤ m.gap) (h7 : m.gap ≤ 1099511627776) (h8 : sectsP 0 m.sects = true) (hx : leftP t m = some x) (h9 : lastP m + m.gap ≤ x.1) : mayP t m = true := by
  unfold mayP
  rw [hx]
  simp [h1, h2, h3, h4, h5, h6, h7, h8, h9]
theorem sects_drop {l : List Sc} {k : Nat} {s : Sc} {x : Int} (h : l[k]? = some s) : sectsP x (l.drop k) = (decide (x < s.to_) && decide (s.to_ ≤ 1099511627776) && decide (1 ≤ s.timer) && decide (s.timer ≤ 1000) && sectsP s.to_ (l.drop (k + 1))) := by
  rw [drop_cons h, sectsP]
def lastO (l : List Sc) : Int := match l.getLast? with
  | none => 0
  | some s => s.to_
theorem lastO_snoc {l : List Sc} {k : Nat} {s : Sc} (h : l[k]? = some s) : lastO (l.take (k + 1)) = s.to_ := by
  unfold lastO
  rw [take_snoc' h]
  simp
set_option maxRecDepth 8000 in
set_option maxHeartbeats 4000000 in
theorem mayP_m {w : World} {t : Tp} {m : TpM} (h : TpIs w t m) (ma : Ma) (v : MaM) (hm : MaIs w ma v) : Calls Tryz.prog 38 #[.agg m.cells, .agg (maC ma v)] w fun e w' => e = .returned (.bool (mayP t ma)) ∧ Below w.heap.size w w' := by
  have hO : Own w _ [_, _] := Own.start2 w 27 42 m.cells (maC ma v)
  have hcl := hO.b0.cell
  have hcm := hO.b1.cell
  have hck := fun W (hW : Below w.heap.size w W) => check_m (h.below hW)
  have htw := fun W (hW : Below w.heap.size w W) => twice_k v.A1 v.n1 v.c1 ma.path W (hm.path.below hW) hm.e1 hm.l1 hm.q1
  have hlf := fun W (hW : Below w.heap.size w W) (hc : checkT t = 0) => left_m (h.below hW) ma v (hm.below hW) hc
  have HP := Lib.hid (@may_parts t ma)
  have HQ := Lib.hid (fun x => @may_of t ma x)
  have he1 := hm.e1
  have he2 := hm.e2
  rw [he1, he2] at HP HQ
  have HE := Lib.hid he2
  clear he1 he2
  generalize mayP t ma = mp at *
  unfold maC TpM.cells at *
  by_cases h1 : checkT t = 0
  · rw [h1] at hck
    replace hlf := fun W (hW : Below w.heap.size w W) => hlf W hW h1
    by_cases h2 : v.n1 ≤ 24
    · have f2 : decide (24 < (v.n1 : Int)) = false := by simp; omega
      cases h3 : twiceP [] ma.path with
      | true =>
        rw [h3] at htw
        obtain rfl : mp = false := Bool.eq_false_iff.2 fun hh => by have := (HP.out hh).2.2.1; rw [h3] at this; cases this
        clear h3
        go_enter Tryz.func38, Tryz.ntmps38
        go_wp2_with (first
          | (go_at_call 68; (with_reducible refine (hck _ hO.below).mono ?_); rintro e w1 ⟨rfl, hb1⟩; replace hO := hO.grow hb1; have hcm1 := hO.b1.cell)
          | (go_at_call 76; (with_reducible refine (htw _ hO.below).mono ?_); rintro e w2 ⟨rfl, hb2⟩; replace hO := hO.grow hb2; have hcm2 := hO.b1.cell))
        go_ret
        exact ⟨rfl, hO.below⟩
      | false =>
        rw [h3] at htw
        by_cases h4 : 1 ≤ v.n2
        · have f4 : decide ((v.n2 : Int) < 1) = false := by simp; omega
          by_cases h5 : v.n2 ≤ 8
          · have f5 : decide (8 < (v.n2 : Int)) = false := by simp; omega
            by_cases h6 : 0 ≤ ma.gap
            · have f6 : decide (ma.gap < 0) = false := by simp; omega
              by_cases h7 : ma.gap ≤ 1099511627776
              · have f7 : decide (1099511627776 < ma.gap) = false := by simp; omega
                have H1 := Lib.hid h1
                have H3 := Lib.hid h3
                clear h1 h3
                go_enter Tryz.func38, Tryz.ntmps38
                go_wp2_with (first
                  | (go_at_call 68; (with_reducible refine (hck _ hO.below).mono ?_); rintro e w1 ⟨rfl, hb1⟩; replace hO := hO.grow hb1; have hcm1 := hO.b1.cell)
                  | (go_at_call 76; (with_reducible refine (htw _ hO.below).mono ?_); rintro e w2 ⟨rfl, hb2⟩; replace hO := hO.grow hb2; have hcm2 := hO.b1.cell))
                clear hcl hcm hcm1 hcm2 hck htw f2 f4 f5 f6 f7
                go_loopw [5, 50] (fun a i wr => ∃ (k : Nat) (x : Int), i = .int .i64 k ∧ k ≤ v.n2 ∧ a = .int .i64 x ∧ 0 ≤ x ∧ x ≤ 1099511627776 ∧ Hid (sectsP 0 ma.sects = sectsP x (ma.sects.drop k) ∧ lastO (ma.sects.take k) = x) ∧ Own w wr [(w.heap.size, 27, #[.slice m.A1 m.n1 m.c1, .slice m.A2 m.n2 m.c2, .slice m.A3 m.n3 m.c3, .slice m.A4 m.n4 m.c4]), (w.heap.size + 1, 42, #[.int .i64 ma.ref, .bool ma.rev, .slice v.A1 v.n1 v.c1, .slice v.A2 v.n2 v.c2, .int .i64 ma.gap])]) (fun _ i _ => v.n2 - (intOf i).toNat)
                case atStart => exact ⟨0, 0, rfl, Nat.zero_le _, rfl, by omega, by omega, Lib.hid ⟨by simp, by simp [lastO]⟩, hO⟩
                case round =>
                  clear hO
                  obtain ⟨k, x, rfl, hk, rfl, hx0, hx1, hap, hO⟩ := hrel
                  have hcl := hO.b0.cell
                  have hcm := hO.b1.cell
                  by_cases hlt : k < v.n2
                  · obtain ⟨s, hs⟩ := get_some HE.out hlt
                    obtain ⟨g, off, hA2, hg, a0, a1⟩ := hm.sects.sc hs
                    have kk0 := (hO.below.cell (p := ⟨g, off + k * 2, none⟩) hg).trans a0
                    have kk1 := (hO.below.cell (p := ⟨g, off + k * 2 + 1, none⟩) hg).trans a1
                    have hstep := sects_drop (x := x) hs
                    rw [← hap.out.1] at hstep
                    have hlast := lastO_snoc hs
                    obtain ⟨x1, x2⟩ := s
                    simp only [hA2] at kk0 kk1 hstep hlast hO hcm ⊢
                    have hO1 := Own.new2 hO 80 #[.int .i64 x1, .int .i64 x2]
                    have hcs := hO1.b2.cell
                    clear hs a0 a1
                    have HS := Lib.hid hstep
                    have HL := Lib.hid hlast
                    clear hstep hlast
                    by_cases g1 : x1 ≤ x
                    · have f1 : decide (x1 ≤ x) = true := by simpa using g1
                      obtain rfl : mp = false := Bool.eq_false_iff.2 fun hh => by have h8 := (HP.out hh).2.2.2.2.2.2.2.1; rw [HS.out] at h8; simp at h8; omega
                      go_wp2_with fail
                      go_ret
                      exact ⟨rfl, hO1.below⟩
                    have f1 : decide (x1 ≤ x) = false := by simpa using g1
                    by_cases g2 : 1099511627776 < x1
                    · have f2 : decide (1099511627776 < x1) = true := by simpa using g2
                      obtain rfl : mp = false := Bool.eq_false_iff.2 fun hh => by have h8 := (HP.out hh).2.2.2.2.2.2.2.1; rw [HS.out] at h8; simp at h8; omega
                      go_wp2_with fail
                      go_ret
                      exact ⟨rfl, hO1.below⟩
                    have f2 : decide (1099511627776 < x1) = false := by simpa using g2
                    by_cases g3 : x2 < 1
                    · have f3 : decide (x2 < 1) = true := by simpa using g3
                      obtain rfl : mp = false := Bool.eq_false_iff.2 fun hh => by have h8 := (HP.out hh).2.2.2.2.2.2.2.1; rw [HS.out] at h8; simp at h8; omega
                      go_wp2_with fail
                      go_ret
                      exact ⟨rfl, hO1.below⟩
                    have f3 : decide (x2 < 1) = false := by simpa using g3
                    by_cases g4 : 1000 < x2
                    · have f4 : decide (1000 < x2) = true := by simpa using g4
                      obtain rfl : mp = false := Bool.eq_false_iff.2 fun hh => by have h8 := (HP.out hh).2.2.2.2.2.2.2.1; rw [HS.out] at h8; simp at h8; omega
                      go_wp2_with fail
                      go_ret
                      exact ⟨rfl, hO1.below⟩
                    have f4 : decide (1000 < x2) = false := by simpa using g4
                    have HS2 := Lib.hid (show sectsP 0 ma.sects = sectsP x1 (ma.sects.drop (k + 1)) ∧ lastO (ma.sects.take (k + 1)) = x1 from ⟨by rw [HS.out]; simp; omega, HL.out⟩)
                    clear HS HL hap
                    go_wp2_with fail
                    go_roundw
                    case rel => exact ⟨k + 1, x1, by go_num, by omega, rfl, by omega, by omega, HS2, ⟨hO1.below, fun x hx => hO1.blk x (by simp at hx; rcases hx with rfl | rfl <;> simp), by simp⟩⟩
                    case measure => simp [intOf]; omega
                  · obtain rfl : k = v.n2 := by omega
                    have hsec : sectsP 0 ma.sects = true ∧ lastP ma = x := by
                      obtain ⟨p1, p2⟩ := hap.out
                      rw [p1, List.drop_of_length_le (by rw [HE.out]; exact Nat.le_refl _)]
                      rw [List.take_of_length_le (by rw [HE.out]; exact Nat.le_refl _)] at p2
                      exact ⟨rfl, p2⟩
                    have HX := Lib.hid hsec
                    clear hsec hap
                    cases hlp : leftP t ma with
                    | none =>
                      rw [hlp] at hlf
                      obtain rfl : mp = false := Bool.eq_false_iff.2 fun hh => by
                        obtain ⟨_, _, _, _, _, _, _, _, z, hz, _⟩ := HP.out hh
                        rw [hlp] at hz
                        cases hz
                      clear hlp
                      unfold leftV at hlf
                      go_wp2_with (first
                        | (go_at_call 58; (with_reducible refine (hlf _ hO.below).mono ?_); rintro e w1 ⟨rfl, hb1⟩; replace hO := hO.grow hb1; have hcm1 := hO.b1.cell))
                      go_ret
                      exact ⟨rfl, hO.below⟩
                    | some z =>
                      rw [hlp] at hlf
                      have hmp : mp = decide (x + ma.gap ≤ z.1) := by
                        by_cases hz : x + ma.gap ≤ z.1
                        · rw [decide_eq_true hz]
                          exact HQ.out z H1.out (by omega) H3.out (by omega) (by omega) (by omega) (by omega) HX.out.1 hlp (by rw [HX.out.2]; exact hz)
                        · rw [decide_eq_false hz]
                          refine Bool.eq_false_iff.2 fun hh => ?_
                          obtain ⟨_, _, _, _, _, _, _, _, z', hz', hz2⟩ := HP.out hh
                          rw [hlp] at hz'
                          cases hz'
                          rw [HX.out.2] at hz2
                          exact hz hz2
                      have HM := Lib.hid hmp
                      obtain ⟨z1, z2⟩ := z
                      clear hmp hlp
                      unfold leftV at hlf
                      go_wp2_with (first
                        | (go_at_call 58; (with_reducible refine (hlf _ hO.below).mono ?_); rintro e w1 ⟨rfl, hb1⟩; replace hO := hO.grow hb1; have hcm1 := hO.b1.cell))
                      go_ret
                      exact ⟨by simp [HM.out], hO.below⟩
              · have f7 : decide (1099511627776 < ma.gap) = true := by simp; omega
                obtain rfl : mp = false := Bool.eq_false_iff.2 fun hh => by have := HP.out hh; omega
                go_enter Tryz.func38, Tryz.ntmps38
                go_wp2_with (first
                  | (go_at_call 68; (with_reducible refine (hck _ hO.below).mono ?_); rintro e w1 ⟨rfl, hb1⟩; replace hO := hO.grow hb1; have hcm1 := hO.b1.cell)
                  | (go_at_call 76; (with_reducible refine (htw _ hO.below).mono ?_); rintro e w2 ⟨rfl, hb2⟩; replace hO := hO.grow hb2; have hcm2 := hO.b1.cell))
                go_ret
                exact ⟨rfl, hO.below⟩
            · have f6 : decide (ma.gap < 0) = true := by simp; omega
              obtain rfl : mp = false := Bool.eq_false_iff.2 fun hh => by have := HP.out hh; omega
              go_enter Tryz.func38, Tryz.ntmps38
              go_wp2_with (first
                | (go_at_call 68; (with_reducible refine (hck _ hO.below).mono ?_); rintro e w1 ⟨rfl, hb1⟩; replace hO := hO.grow hb1; have hcm1 := hO.b1.cell)
                | (go_at_call 76; (with_reducible refine (htw _ hO.below).mono ?_); rintro e w2 ⟨rfl, hb2⟩; replace hO := hO.grow hb2; have hcm2 := hO.b1.cell))
              go_ret
              exact ⟨rfl, hO.below⟩
          · have f5 : decide (8 < (v.n2 : Int)) = true := by simp; omega
            obtain rfl : mp = false := Bool.eq_false_iff.2 fun hh => by have := HP.out hh; omega
            go_enter Tryz.func38, Tryz.ntmps38
            go_wp2_with (first
              | (go_at_call 68; (with_reducible refine (hck _ hO.below).mono ?_); rintro e w1 ⟨rfl, hb1⟩; replace hO := hO.grow hb1; have hcm1 := hO.b1.cell)
              | (go_at_call 76; (with_reducible refine (htw _ hO.below).mono ?_); rintro e w2 ⟨rfl, hb2⟩; replace hO := hO.grow hb2; have hcm2 := hO.b1.cell))
            go_ret
            exact ⟨rfl, hO.below⟩
        · have f4 : decide ((v.n2 : Int) < 1) = true := by simp; omega
          obtain rfl : mp = false := Bool.eq_false_iff.2 fun hh => by have := HP.out hh; omega
          go_enter Tryz.func38, Tryz.ntmps38
          go_wp2_with (first
            | (go_at_call 68; (with_reducible refine (hck _ hO.below).mono ?_); rintro e w1 ⟨rfl, hb1⟩; replace hO := hO.grow hb1; have hcm1 := hO.b1.cell)
            | (go_at_call 76; (with_reducible refine (htw _ hO.below).mono ?_); rintro e w2 ⟨rfl, hb2⟩; replace hO := hO.grow hb2; have hcm2 := hO.b1.cell))
          go_ret
          exact ⟨rfl, hO.below⟩
    · have f2 : decide (24 < (v.n1 : Int)) = true := by simp; omega
      obtain rfl : mp = false := Bool.eq_false_iff.2 fun hh => by have := HP.out hh; omega
      go_enter Tryz.func38, Tryz.ntmps38
      go_wp2_with (first
        | (go_at_call 68; (with_reducible refine (hck _ hO.below).mono ?_); rintro e w1 ⟨rfl, hb1⟩; replace hO := hO.grow hb1; have hcm1 := hO.b1.cell)
        | (go_at_call 76; (with_reducible refine (htw _ hO.below).mono ?_); rintro e w2 ⟨rfl, hb2⟩; replace hO := hO.grow hb2; have hcm2 := hO.b1.cell))
      go_ret
      exact ⟨rfl, hO.below⟩
  · obtain rfl : mp = false := Bool.eq_false_iff.2 fun hh => h1 (HP.out hh).1
    generalize checkT t = ck at *
    have hne : (ck != 0) = true := by simpa using h1
    clear hlf HP HQ h1
    go_enter Tryz.func38, Tryz.ntmps38
    go_wp2_with (first
      | (go_at_call 68; (with_reducible refine (hck _ hO.below).mono ?_); rintro e w1 ⟨rfl, hb1⟩; replace hO := hO.grow hb1; have hcm1 := hO.b1.cell)
      | (go_at_call 76; (with_reducible refine (htw _ hO.below).mono ?_); rintro e w2 ⟨rfl, hb2⟩; replace hO := hO.grow hb2; have hcm2 := hO.b1.cell))
    go_ret
    exact ⟨rfl, hO.below⟩
end Go.Proofs.YtpjdcpicfkdioaaGreatDoor
/- plan.Extent, where it answers. -/
namespace Go.Proofs.YtpjdcpicfkdioaaGreatDoor
open Go.RowKit Go.Shelf

theorem extent_is {t : Tp} {m : Ma} (h : mayP t m = true) {fr to_ : Int} (h0 : 0 ≤ fr) (h1 : fr ≤ to_) (h2 : to_ ≤ lastP m + m.gap) : ∃ x, leftP t m = some x ∧ checkT t = 0 ∧ lenE t m.path = 0 ∧ 0 ≤ x.2 ∧ x.2 + to_ ≤ lenT t m.path ∧ lenT t m.path ≤ 100000000 ∧ extentT t m fr to_ = normT (piecesT t (x.2 + fr) (x.2 + to_) m.path 0) := by
  obtain ⟨a1, a2, a3, x, a4, a5⟩ := may_ok h
  obtain ⟨b1, b2, b3⟩ := left_ok a1 a4
  have hl := check_edges a1
  have hlb : lenT t m.path ≤ 100000000 := by
    have hok := len_ok b1
    have := lens_nonneg hl m.path hok.2.2.1
    rw [len_is hl b1]
    omega
  refine ⟨x, a4, a1, b1, b3, by omega, hlb, ?_⟩
  unfold extentT
  rw [if_neg (by rw [h]; simp; omega), a4]
  simp only
  have he : spanE t m.path (x.2 + fr) (x.2 + to_) = 0 := by
    unfold spanE
    rw [if_neg (by omega), if_neg]
    rintro (e | e | e | e)
    · obtain ⟨n, hn, hb⟩ := List.any_eq_true.1 e
      have := hl n hn
      simp at hb
      omega
    · omega
    · omega
    · omega
  unfold spanT
  rw [if_pos he]
theorem last_at {m : Ma} (h : m.sects ≠ []) : ∃ s, m.sects[m.sects.length - 1]? = some s ∧ lastP m = s.to_ := by
  unfold lastP
  rw [List.getLast?_eq_getElem?]
  have : 0 < m.sects.length := List.length_pos_iff.2 h
  have hi : m.sects.length - 1 < m.sects.length := by omega
  exact ⟨_, List.getElem?_eq_getElem hi, by rw [List.getElem?_eq_getElem hi]⟩
set_option maxRecDepth 8000 in
set_option maxHeartbeats 8000000 in
theorem extent_k {w : World} {t : Tp} {m : TpM} (h : TpIs w t m) (ma : Ma) (v : MaM) (hm : MaIs w ma v) (hmay : mayP t ma = true) (fr to_ : Int) (h0 : 0 ≤ fr) (h1 : fr ≤ to_) (h2 : to_ ≤ lastP ma + ma.gap) : Calls Tryz.prog 27 #[.agg m.cells, .agg (maC ma v), .int .i64 fr, .int .i64 to_] w fun e w' => ∃ A' c', e = .returned (.tuple #[.slice A' (extentT t ma fr to_).length c', .int .i64 0]) ∧ RowsAt encSp w' A' (extentT t ma fr to_) ∧ Below w.heap.size w w' := by
  have hO : Own w _ [_, _] := Own.start2 w 27 42 m.cells (maC ma v)
  have hcl := hO.b0.cell
  have hcm := hO.b1.cell
  obtain ⟨x, g1, g2, g3, g4, g5, g6, g7⟩ := extent_is hmay h0 h1 h2
  have hmy := fun W (hW : Below w.heap.size w W) => mayP_m (h.below hW) ma v (hm.below hW)
  have hlf := fun W (hW : Below w.heap.size w W) => left_m (h.below hW) ma v (hm.below hW) g2
  have hov := fun W (hW : Below w.heap.size w W) => spanover_k (h.below hW) v.A1 v.n1 v.c1 ma.path (x.2 + fr) (x.2 + to_) (hm.path.below hW) hm.e1 hm.l1 (check_edges g2) g3 (by omega) (by omega) g5
  obtain ⟨s, hs, hls⟩ := last_at (may_sects hmay).2
  have hne := List.length_pos_iff.2 (may_sects hmay).2
  have hgap := (may_ok hmay).2.2.1
  have hx1 : lastP ma + ma.gap ≤ 100000000 := by
    obtain ⟨a1, a2, a3, y, a4, a5⟩ := may_ok hmay
    obtain ⟨b1, b2, b3⟩ := left_ok a1 a4
    omega
  have hrise := sects_rise ma.sects 0 (may_sects hmay).1 s (List.mem_of_getElem? hs)
  rw [hm.e2] at hs hne
  obtain ⟨g, off, hA2, hg, a0, a1⟩ := hm.sects.sc hs
  rw [hmay] at hmy
  rw [g1] at hlf
  rw [← g7] at hov
  have ka0 := fun W (hW : Below w.heap.size w W) => (hW.cell (p := ⟨g, off + (v.n2 - 1) * 2, none⟩) hg).trans a0
  rw [hls] at h2 hx1
  generalize extentT t ma fr to_ = ex at *
  obtain ⟨p, hp⟩ : ∃ p, v.n2 = p + 1 := ⟨v.n2 - 1, by omega⟩
  have hpi : ((v.n2 : Int) - 1) = (p : Int) := by omega
  have hpn : v.n2 - 1 = p := by omega
  rw [hpn] at ka0
  have hpl : p < v.n2 := by omega
  obtain ⟨s1, s2⟩ := s
  simp only at h2 hx1 hrise ka0
  obtain ⟨x1, x2⟩ := x
  simp only at g4 g5 hov
  have f1 : decide (fr < 0) = false := by simpa using h0
  have f2 : decide (to_ < fr) = false := by simpa using h1
  have f3 : decide (s1 + ma.gap < to_) = false := by simpa using h2
  have hq2 := hm.q2
  have hl2 := hm.l2
  unfold leftV at hlf
  unfold maC at *
  simp only [hA2] at hO hcm hmy hlf hov ⊢
  unfold TpM.cells at *
  clear g1 g7 hs hls hmay hne hp a0 a1 hpn
  go_enter Tryz.func27, Tryz.ntmps27
  go_wp2_with fail
  apply wp_region_lex
  case hFl =>
    intro u
    simp only [List.map, fill, Act.put, List.setIfInBounds_toArray, List.set_cons_zero, List.set_cons_succ, Nat.reduceAdd, Nat.zero_add]
    with_reducible rfl
  case hm => kernel_rfl
  case hB => kernel_rfl
  case hap => kernel_rfl
  repeat (first
    | (apply Lex.is
       · (intro u w' hk hd
          simp [Waited, Region.binds, Is] at hd
          refine looked_want ?_ ?_
          · first
            | rfl
            | (simp [Region.wanted, yielded, hd]; done)
          intro K hK
          have hO2 := hO.grow hk; have hB2 := hO2.below; have hcl2 := hO2.b0.cell; have hcm2 := hO2.b1.cell; have m1 := ka0 _ hB2
          go_wp2_with ((first | (go_at_call 38; (with_reducible refine (hmy _ hB2).mono ?_); rintro e w3 ⟨rfl, hb3⟩)))
          try simp only [hd] at hK
          refine hK _ _ ?_ rfl
          first | exact Below.refl _ _ | exact hb3))
    | (refine Lex.is (c := undef) ?_ ?_
       · (intro u w' hk hd
          simp [Waited, Region.binds, Is] at hd
          exact looked_skip (by simp [Region.wanted, yielded, hd]) rfl)))
  apply Lex.nil
  intro u w' hk hd
  simp only [List.nil_append, List.cons_append] at hd
  have hlast := hd 28 _ rfl
  simp only [Is] at hlast
  clear hd
  simp only [hlast]
  replace hO := hO.grow hk
  have hcl3 := hO.b0.cell
  have hcm3 := hO.b1.cell
  clear hk hlast hcl hcm
  go_wp2_with (first
    | (go_at_call 58; (with_reducible refine (hlf _ hO.below).mono ?_); rintro e w4 ⟨rfl, hb4⟩; replace hO := hO.grow hb4; have hcl4 := hO.b0.cell; have hcm4 := hO.b1.cell)
    | (go_at_call 59; (with_reducible refine (hov _ hO.below).mono ?_); rintro e w5 ⟨A9, c9, rfl, hr5, hb5⟩; replace hO := hO.grow hb5))
  go_ret2
  exact ⟨A9, c9, rfl, hr5, hO.below⟩
end Go.Proofs.YtpjdcpicfkdioaaGreatDoor
/- place: over, On. -/
set_option linter.unusedSimpArgs false
set_option linter.unusedVariables false
namespace Go.Proofs.YtpjdcpicfkdioaaGreatDoor
open Go.RowKit Go.Shelf

set_option maxRecDepth 8000 in
set_option maxHeartbeats 4000000 in
theorem over_m {w : World} {t : Tp} {m : TpM} (h : TpIs w t m) (s : St) (n : Int) (hc : checkT t = 0) (hs : thereT t s.edge = true) (h0 : 0 ≤ n) (h1 : n ≤ 4398046511104) : Calls Tryz.prog 104 #[.agg m.cells, stV s, .int .i64 n] w fun e w' => e = .returned (psV (overT t s n)) ∧ Below w.heap.size w w' := by
  have hO : Own w _ [_, _, _] := Own.start3 w 27 98 38 m.cells #[.int .i64 s.edge, .bool s.rev] #[.int .i64 0, .int .i64 0, .bool false]
  have hcl := hO.b0.cell
  have hcp := hO.b1.cell
  obtain ⟨i, ev, g, off, hi, hin, hie, hA1, hke, hev⟩ := edge_at h hs
  have hmax := check_edges hc ev hev
  have hr : overT t s n = ⟨s.edge, if s.rev then ev - n else n, s.rev⟩ := by unfold overT; rw [hie]
  rw [hr]
  obtain ⟨pe, pr⟩ := s
  simp only at hi hO hcl hcp ⊢
  subst hi
  clear hr hs hc hie hev
  simp only [TpM.cells, hA1] at hcl hO ⊢
  have ke0 := hke _ hO.below
  cases pr with
  | false =>
    go_enter Tryz.func104, Tryz.ntmps104
    go_wp2_with (first
      | fail
      | ((with_reducible refine own_row2 (#[.int .i64 i, .int .i64 n, .bool false]) hO rfl _ _ rfl rfl rfl (by kernel_rfl) rfl ?_ ?_); (· first | rfl | (simp [Value.oneCell']; done)); intro wR hOR hszR hkR; replace hO := hOR; clear hOR)
      )
    exact bodyPost_ret (results_c Tryz.results104 _ _ _ _ _ rfl hO.b2 Tryz.underlying38 rfl (by kernel_rfl)) rfl ⟨rfl, hO.below⟩
  | true =>
    go_enter Tryz.func104, Tryz.ntmps104
    go_wp2_with (first
      | fail
      | ((with_reducible refine own_row2 (#[.int .i64 i, .int .i64 (ev - n), .bool true]) hO rfl _ _ rfl rfl rfl (by kernel_rfl) rfl ?_ ?_); (· first | rfl | (simp [Value.oneCell']; done)); intro wR hOR hszR hkR; replace hO := hOR; clear hOR)
      )
    exact bodyPost_ret (results_c Tryz.results104 _ _ _ _ _ rfl hO.b2 Tryz.underlying38 rfl (by kernel_rfl)) rfl ⟨rfl, hO.below⟩
theorem ahead_drop {t : Tp} {x : St} {p : List St} {k : Nat} {s : St} {n : Int} (h : p[k]? = some s) : aheadT t x (p.drop k) n = if s = x then some n else aheadT t x (p.drop (k + 1)) (n + edgeT t s.edge) := by
  rw [drop_cons h, aheadT]
set_option maxRecDepth 8000 in
set_option maxHeartbeats 4000000 in
theorem on_m {w : World} {t : Tp} {m : TpM} (h : TpIs w t m) (A : Option Addr) (n c : Nat) (path : List St) (p : Ps) (hp : RowsAt encSt w A path) (hn : path.length = n) (hl : n ≤ 100) : Calls Tryz.prog 55 #[.agg m.cells, .slice A n c, psV p] w fun e w' => e = .returned (.tuple #[.int .i64 (onT t path p).1, .int .i64 (onT t path p).2]) ∧ Below w.heap.size w w' := by
  have hO : Own w _ [_, _] := Own.start2 w 27 38 m.cells #[.int .i64 p.edge, .int .i64 p.at_, .bool p.rev]
  have hcl := hO.b0.cell
  have hcp := hO.b1.cell
  have hri := fun W (hW : Below w.heap.size w W) => right_m (h.below hW) p
  have hle := fun W (hW : Below w.heap.size w W) => len_m (h.below hW) A n c path (hp.below hW) hn hl
  have hal := fun W (hW : Below w.heap.size w W) => along_m (h.below hW) p
  have hr : onT t path p = if rightT t p = false then (0, 1) else if lenE t path ≠ 0 then (0, lenE t path) else match aheadT t ⟨p.edge, p.rev⟩ path 0 with
    | none => (0, 4)
    | some n => (n + alongT t p, 0) := rfl
  have HN := Lib.hid hn
  generalize hon : onT t path p = on at *
  clear hon hn
  by_cases h1 : rightT t p = true
  · rw [if_neg (by rw [h1]; simp)] at hr
    have hbound : 0 ≤ alongT t p ∧ alongT t p ≤ 1000000 := by
      obtain ⟨r1, r2, r3, r4⟩ := right_parts h1
      obtain ⟨i, ev, _, _, _, _, hie, _, _, hev⟩ := edge_at h r2
      have hmax := check_edges r1 ev hev
      rw [hie] at r4
      unfold alongT
      rw [hie]
      split <;> omega
    have hck := (right_parts h1).1
    rw [h1] at hri
    replace hal := fun W (hW : Below w.heap.size w W) => hal W hW h1
    generalize alongT t p = al at *
    generalize lenT t path = lt at *
    by_cases h2 : lenE t path = 0
    · rw [if_neg (by rw [h2]; simp)] at hr
      have hok := len_ok h2
      rw [h2] at hle
      clear h1 h2
      have HR := Lib.hid hr
      clear hr
      obtain ⟨pe, pa, pr⟩ := p
      simp only [TpM.cells] at hO hcl hcp hri hle hal ⊢
      go_enter Tryz.func55, Tryz.ntmps55
      go_wp2_with (first
        | (go_at_call 35; (with_reducible refine (hri _ hO.below).mono ?_); rintro e w1 ⟨rfl, hb1⟩; replace hO := hO.grow hb1; have hcl1 := hO.b0.cell; have hcp1 := hO.b1.cell)
        | (go_at_call 103; (with_reducible refine (hle _ hO.below).mono ?_); rintro e w2 ⟨rfl, hb2⟩; replace hO := hO.grow hb2; have hcl2 := hO.b0.cell; have hcp2 := hO.b1.cell))
      clear hcl hcp hcl1 hcp1 hcl2 hcp2 hri hle
      go_loopw [10, 28] (fun a i wr => ∃ (k : Nat) (x : Int), i = .int .i64 k ∧ k ≤ n ∧ a = .int .i64 x ∧ 0 ≤ x ∧ x ≤ 1000000 * k ∧ Hid (aheadT t ⟨pe, pr⟩ path 0 = aheadT t ⟨pe, pr⟩ (path.drop k) x) ∧ Own w wr [(w.heap.size, 27, #[.slice m.A1 m.n1 m.c1, .slice m.A2 m.n2 m.c2, .slice m.A3 m.n3 m.c3, .slice m.A4 m.n4 m.c4]), (w.heap.size + 1, 38, #[.int .i64 pe, .int .i64 pa, .bool pr])]) (fun _ i _ => n - (intOf i).toNat)
      case atStart => exact ⟨0, 0, rfl, Nat.zero_le _, rfl, by omega, by omega, Lib.hid (by simp), hO⟩
      case round =>
        clear hO
        obtain ⟨k, x, rfl, hk, rfl, hx0, hx1, hap, hO⟩ := hrel
        have hcl := hO.b0.cell
        have hcp := hO.b1.cell
        by_cases hlt : k < n
        · obtain ⟨s, hs⟩ := get_some HN.out hlt
          obtain ⟨g, off, rfl, hg, a0, a1⟩ := hp.st hs
          have kk0 := (hO.below.cell (p := ⟨g, off + k * 2, none⟩) hg).trans a0
          have kk1 := (hO.below.cell (p := ⟨g, off + k * 2 + 1, none⟩) hg).trans a1
          have hth := hok.2.2.1 s (List.mem_of_getElem? hs)
          obtain ⟨i, ev, ge, offe, hi, hin, hie, hA1, hke, hev⟩ := edge_at h hth
          have hmax := check_edges hck ev hev
          have hstep := ahead_drop (t := t) (x := ⟨pe, pr⟩) (n := x) hs
          rw [← hap.out, hie] at hstep
          have heq := run_eql_st s ⟨pe, pr⟩
          obtain ⟨x1, x2⟩ := s
          simp only at hi kk0 kk1 heq
          subst hi
          simp only [hA1] at hO hcl hal ⊢
          have hO1 := Own.new2 hO 98 #[.int .i64 i, .bool x2]
          have hcm := hO1.b0.cell
          have hcn := hO1.b1.cell
          have hco := hO1.b2.cell
          have ke1 := hke _ hO1.below
          clear hs a0 a1 hth hie hev
          obtain ⟨sm, hsm⟩ : ∃ b, b = decide ((⟨i, x2⟩ : St) = ⟨pe, pr⟩) := ⟨_, rfl⟩
          rw [← hsm] at heq
          cases sm with
          | true =>
            rw [if_pos (by simpa using hsm.symm)] at hstep
            have HR' := HR.out
            rw [hstep] at HR'
            replace HR := Lib.hid HR'
            clear HR' hstep hap hsm
            go_wp2_with (first
              | (go_at_call 105; (with_reducible refine (hal _ hO1.below).mono ?_); rintro e w1 ⟨rfl, hb1⟩; replace hO := hO1.grow hb1))
            go_ret2
            exact ⟨by simp [HR.out], hO.below⟩
          | false =>
            rw [if_neg (by simpa using hsm.symm)] at hstep
            have HS := Lib.hid hstep
            clear hstep hap hsm
            go_wp2_with fail
            go_roundw
            case rel => exact ⟨k + 1, x + ev, by go_num, by omega, rfl, by omega, by push_cast; omega, HS, ⟨hO1.below, fun x hx => hO1.blk x (by simp at hx; rcases hx with rfl | rfl <;> simp), by simp⟩⟩
            case measure => simp [intOf]; omega
        · obtain rfl : k = n := by omega
          have hap' : aheadT t ⟨pe, pr⟩ path 0 = none := by
            rw [hap.out, List.drop_of_length_le (by rw [HN.out]; exact Nat.le_refl _)]
            rfl
          have HR' := HR.out
          rw [hap'] at HR'
          replace HR := Lib.hid HR'
          clear HR' hap' hap
          go_wp2_with fail
          go_ret2
          exact ⟨by simp [HR.out], hO.below⟩
    · rw [if_pos h2] at hr
      have HR := Lib.hid hr
      generalize lenE t path = le at *
      have hne : (le != 0) = true := by simpa using h2
      clear hr h2 h1 hal
      obtain ⟨pe, pa, pr⟩ := p
      simp only [TpM.cells] at hO hcl hcp hri hle ⊢
      go_enter Tryz.func55, Tryz.ntmps55
      go_wp2_with (first
        | (go_at_call 35; (with_reducible refine (hri _ hO.below).mono ?_); rintro e w1 ⟨rfl, hb1⟩; replace hO := hO.grow hb1; have hcl1 := hO.b0.cell; have hcp1 := hO.b1.cell)
        | (go_at_call 103; (with_reducible refine (hle _ hO.below).mono ?_); rintro e w2 ⟨rfl, hb2⟩; replace hO := hO.grow hb2))
      go_ret2
      exact ⟨by simp [HR.out], hO.below⟩
  · rw [if_pos (by simpa using h1)] at hr
    have h1' : rightT t p = false := by simpa using h1
    rw [h1'] at hri
    have HR := Lib.hid hr
    clear hr h1 h1' hal hle
    obtain ⟨pe, pa, pr⟩ := p
    simp only [TpM.cells] at hO hcl hcp hri ⊢
    go_enter Tryz.func55, Tryz.ntmps55
    go_wp2_with (first
      | (go_at_call 35; (with_reducible refine (hri _ hO.below).mono ?_); rintro e w1 ⟨rfl, hb1⟩; replace hO := hO.grow hb1))
    go_ret2
    exact ⟨by simp [HR.out], hO.below⟩
end Go.Proofs.YtpjdcpicfkdioaaGreatDoor
