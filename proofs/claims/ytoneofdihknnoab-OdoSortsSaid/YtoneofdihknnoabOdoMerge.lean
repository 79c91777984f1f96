/- The library's stable sort of readings: exchange, rotation, merge. -/
import Derived.Test.YtoneofdihknnoabOdoSort
import Derived.Test.YtoneofdihknnoabMerge
import Derived.BigRegion
set_option linter.unusedSimpArgs false
set_option linter.unusedVariables false
namespace Go.Proofs.Ytoneofdihknnoab
open Go.RowKit Go.Shelf Go.Sort Ieee

/-- The cells of a row that was put. -/
theorem fl_at {w : World} {g : Nat} {d dk : Array UInt64} (hH : Holds encF w g 0 d) (hs : dk.size = d.size) (q j : Nat) (hj : j < d.size) : ((putRow encF w g 0 dk).drewN q).cell? ⟨g, j, none⟩ = some (encF dk[j]!) ∧ ((putRow encF w g 0 dk).drewN q).frozen? ⟨g, j, none⟩ = false := by
  have h := holds_putRow encF w g 0 d dk hH hs j (by omega)
  rw [Nat.zero_add] at h
  exact h
theorem fl_swp (w : World) (g : Nat) (d : Array UInt64) (i j : Nat) (hi : i < d.size) (hj : j < d.size) :
    ((putRow encF w g 0 d).setCell ⟨g, i, none⟩ (encF d[j]!)).setCell ⟨g, j, none⟩ (encF d[i]!) = putRow encF w g 0 (swp d i j) := by
  have := putRow_swp encF w g 0 d i j hi hj
  rwa [Nat.zero_add, Nat.zero_add] at this
set_option maxHeartbeats 4000000 in
set_option maxRecDepth 100000 in
theorem swapr_k (g cap N a b n : Nat) (cf : Value) (d : Array UInt64) (w : World) (hN : d.size = N) (hH : Holds encF w g 0 d) (hab : a + n ≤ b) (hb : b + n ≤ N) (hsz : N ≤ 200) :
    Calls Try.prog 45 #[.slice (some ⟨g, 0, none⟩) N cap, .int .i64 a, .int .i64 b, .int .i64 n, cf] w fun e w' => e = .returned (.tuple #[]) ∧ ∃ d' q, IsSwapR d d' a b n ∧ PermIn a (b + n) d d' ∧ w' = (putRow encF w g 0 d').drewN q := by
  have HST := Lib.hid (putRow_self encF w g 0 d hH).symm
  have HH := Lib.hid hH
  have HN := Lib.hid hN
  clear hH hN
  have hcl0 := encF_one.cells
  simp only [Value.cells] at hcl0
  have hst := encF_one.store Try.prog
  go_enter Try.func45, Try.ntmps45
  go_wp2_with fail
  go_loopw [10] (fun i wr => ∃ (k q : Nat) (dk : Array UInt64), k ≤ n ∧ i = .int .i64 k ∧ IsSwapR d dk a b k ∧ PermIn a (b + n) d dk ∧ wr = (putRow encF w g 0 dk).drewN q) (fun i _ => n - (intOf i).toNat)
  case atStart => exact ⟨0, 0, d, Nat.zero_le _, rfl, isSwapR_zero d a b, permIn_refl _ _ _, HST.out⟩
  case round =>
    obtain ⟨k, q, dk, hk, rfl, hsw, hpm, rfl⟩ := hrel
    have HSW := Lib.hid hsw
    have HPM := Lib.hid hpm
    have hsk : dk.size = d.size := hsw.1
    by_cases hlt : k < n
    · obtain ⟨pa, hpa⟩ : ∃ pa, pa = a + k := ⟨_, rfl⟩
      obtain ⟨pb, hpb⟩ : ∃ pb, pb = b + k := ⟨_, rfl⟩
      obtain ⟨ca, fa⟩ := fl_at HH.out hsk q pa (by have := HN.out; omega)
      obtain ⟨cb, fb⟩ := fl_at HH.out hsk q pb (by have := HN.out; omega)
      obtain ⟨xa, hxa⟩ : ∃ x, dk[pa]! = x := ⟨_, rfl⟩
      obtain ⟨xb, hxb⟩ : ∃ x, dk[pb]! = x := ⟨_, rfl⟩
      rw [hxa] at ca
      rw [hxb] at cb
      have HXA := Lib.hid hxa
      have HXB := Lib.hid hxb
      have e1 : (a : Int) + (k : Int) = (pa : Int) := by omega
      have e2 : (b : Int) + (k : Int) = (pb : Int) := by omega
      have l1 : pa < N := by omega
      have l2 : pb < N := by omega
      have HPA := Lib.hid hpa
      have HPB := Lib.hid hpb
      have hne : pa ≠ pb := by omega
      have HSK := Lib.hid hsk
      clear hsw hpm hxa hxb hpa hpb hsk
      generalize hwq : (putRow encF w g 0 dk).drewN q = wq at *
      have HW := Lib.hid hwq
      clear hwq
      go_wp2_with fail
      go_big_region
      all_goals go_wp2
      go_roundw
      case rel => exact ⟨k + 1, q + 1, swp dk (a + k) (b + k), by omega, by go_num, isSwapR_step HSW.out (by omega) (by have := HN.out; omega), permIn_trans _ _ _ _ _ HPM.out (swp_permIn _ _ _ _ _ (by omega) (by omega) (by omega) (by omega) (by have := HN.out; have := HSK.out; omega)), by
        rw [← HW.out, ← HXA.out, ← HXB.out, HPA.out, HPB.out]
        have := swap_worldC encF w g 0 dk q (a + k) (b + k) (by have := HN.out; have := HSK.out; omega) (by have := HN.out; have := HSK.out; omega)
        rwa [Nat.zero_add, Nat.zero_add] at this⟩
      case measure => simp [intOf]; omega
    · obtain rfl : k = n := by omega
      go_wp2_with fail
      go_end0
      exact ⟨rfl, dk, q, HSW.out, HPM.out, rfl⟩
theorem fl_put (w : World) (g : Nat) (d d' : Array UInt64) (q q' : Nat) (h : d'.size = d.size) : (putRow encF ((putRow encF w g 0 d).drewN q) g 0 d').drewN q' = (putRow encF w g 0 d').drewN (q + q') := by
  have e : putRow encF ((putRow encF w g 0 d).drewN q) g 0 d' = (putRow encF (putRow encF w g 0 d) g 0 d').drewN q := rfl
  rw [e, putRow_putRow encF w g 0 d d' h, World.drewN_drewN]
theorem fl_holds {w : World} {g : Nat} {d dk : Array UInt64} (hH : Holds encF w g 0 d) (hs : dk.size = d.size) (q : Nat) : Holds encF ((putRow encF w g 0 dk).drewN q) g 0 dk := holds_putRow encF w g 0 d dk hH hs
set_option maxHeartbeats 4000000 in
set_option maxRecDepth 100000 in
theorem rot_k (g cap N a m b : Nat) (cf : Value) (d : Array UInt64) (w : World) (hN : d.size = N) (hH : Holds encF w g 0 d) (ham : a < m) (hmb : m < b) (hb : b ≤ N) (hsz : N ≤ 200) :
    Calls Try.prog 40 #[.slice (some ⟨g, 0, none⟩) N cap, .int .i64 a, .int .i64 m, .int .i64 b, cf] w fun e w' => e = .returned (.tuple #[]) ∧ ∃ d' q, IsRot d d' a m b ∧ PermIn a b d d' ∧ w' = (putRow encF w g 0 d').drewN q := by
  have HST := Lib.hid (putRow_self encF w g 0 d hH).symm
  have HH := Lib.hid hH
  have HN := Lib.hid hN
  have hsw : ∀ (dk : Array UInt64) (q a' b' n' : Nat), dk.size = d.size → a' + n' ≤ b' → b' + n' ≤ N → Calls Try.prog 45 #[.slice (some ⟨g, 0, none⟩) N cap, .int .i64 a', .int .i64 b', .int .i64 n', cf] ((putRow encF w g 0 dk).drewN q) fun e w' => e = .returned (.tuple #[]) ∧ ∃ d' q', IsSwapR dk d' a' b' n' ∧ PermIn a' (b' + n') dk d' ∧ w' = (putRow encF w g 0 d').drewN q' := fun dk q a' b' n' hs h1 h2 => (swapr_k g cap N a' b' n' cf dk _ (hs.trans hN) (fl_holds hH hs q) h1 h2 hsz).mono fun e w' ⟨he, d', q', k1, k2, hw⟩ => ⟨he, d', q + q', k1, k2, by rw [hw, fl_put _ _ _ _ _ _ k1.1]⟩
  clear hH hN
  go_enter Try.func40, Try.ntmps40
  go_wp2_with fail
  go_loopw [10, 11] (fun vi vj wr => ∃ (i j q : Nat) (dk : Array UInt64), vi = .int .i64 i ∧ vj = .int .i64 j ∧ 0 < i ∧ 0 < j ∧ a + i ≤ m ∧ m + j ≤ b ∧ PermIn a b d dk ∧ (∀ T, IsRot dk T (m - i) m (m + j) → IsRot d T a m b) ∧ wr = (putRow encF w g 0 dk).drewN q) (fun vi vj _ => (intOf vi).toNat + (intOf vj).toNat)
  case atStart => exact ⟨m - a, b - m, 0, d, by congr 1; omega, by congr 1; omega, by omega, by omega, by omega, by omega, permIn_refl _ _ _, fun T hT => by rwa [show m - (m - a) = a by omega, show m + (b - m) = b by omega] at hT, HST.out⟩
  case round =>
    obtain ⟨i, j, q, dk, rfl, rfl, hi, hj, hai, hjb, hpm, hrot, rfl⟩ := hrel
    have HPM := Lib.hid hpm
    have HR := Lib.hid hrot
    have HSK := Lib.hid hpm.1
    clear hpm hrot
    obtain ⟨mi, hmi⟩ : ∃ mi, mi = m - i := ⟨_, rfl⟩
    have emi : (m : Int) - (i : Int) = (mi : Int) := by omega
    have HMI := Lib.hid hmi
    by_cases hij : i = j
    · have hsc := hsw dk q mi m i HSK.out (by omega) (by omega)
      have hd : ((i : Int) == (j : Int)) = true := by simp [hij]
      subst hij
      clear hsw hmi
      generalize hwq : (putRow encF w g 0 dk).drewN q = wq at *
      clear hwq
      go_wp2_with (go_at_call 45; (with_reducible refine hsc.mono ?_); rintro e w1 ⟨rfl, d', q', k1, k2, rfl⟩)
      go_end0
      rw [HMI.out] at k1 k2
      exact ⟨rfl, d', q', HR.out _ (rot_same k1 (by omega)), permIn_trans _ _ _ _ _ HPM.out (permIn_mono _ _ _ _ _ _ (by omega) (by omega) (by have := HN.out; have := HSK.out; omega) k2), rfl⟩
    · have hd : ((i : Int) == (j : Int)) = false := by simp; omega
      by_cases hlt : j < i
      · have hsc := hsw dk q mi m j HSK.out (by omega) (by omega)
        have hd2 : decide ((j : Int) < (i : Int)) = true := by simp; omega
        clear hsw hmi
        generalize hwq : (putRow encF w g 0 dk).drewN q = wq at *
        clear hwq
        go_wp2_with (go_at_call 45; (with_reducible refine hsc.mono ?_); rintro e w1 ⟨rfl, d', q', k1, k2, rfl⟩)
        go_roundw
        case rel => exact ⟨i - j, j, q', d', by congr 1; omega, rfl, by omega, hj, by omega, hjb, by
          rw [HMI.out] at k2
          exact permIn_trans _ _ _ _ _ HPM.out (permIn_mono _ _ _ _ _ _ (by omega) (by omega) (by have := HN.out; have := HSK.out; omega) k2), fun T hT => by
          rw [HMI.out] at k1
          exact HR.out T (rot_more k1 hlt (by omega) hT), rfl⟩
        case measure => simp [intOf]; omega
      · obtain ⟨mj, hmj⟩ : ∃ mj, mj = m + j - i := ⟨_, rfl⟩
        have emj : (m : Int) + (j : Int) - (i : Int) = (mj : Int) := by omega
        have hsc := hsw dk q mi mj i HSK.out (by omega) (by omega)
        have hd2 : decide ((j : Int) < (i : Int)) = false := by simp; omega
        have HMJ := Lib.hid hmj
        clear hsw hmi hmj
        generalize hwq : (putRow encF w g 0 dk).drewN q = wq at *
        clear hwq
        go_wp2_with (go_at_call 45; (with_reducible refine hsc.mono ?_); rintro e w1 ⟨rfl, d', q', k1, k2, rfl⟩)
        go_roundw
        case rel => exact ⟨i, j - i, q', d', rfl, by congr 1; omega, hi, by omega, hai, by omega, by
          rw [HMI.out, HMJ.out] at k2
          exact permIn_trans _ _ _ _ _ HPM.out (permIn_mono _ _ _ _ _ _ (by omega) (by omega) (by have := HN.out; have := HSK.out; omega) k2), fun T hT => by
          rw [HMI.out, HMJ.out] at k1
          exact HR.out T (rot_less k1 (by omega) (by omega) hT), rfl⟩
        case measure => simp [intOf]; omega
abbrev ltF : UInt64 → UInt64 → Bool := ltOf cfF
theorem ltF_iff (x y : UInt64) : ltF x y = decide (placeV x.toNat < placeV y.toNat) := by
  show decide (cfF x y < 0) = _
  rw [decide_eq_decide]
  exact (order_place x.toNat y.toNat).1
theorem ltF_swo : SWO ltF := by
  refine ⟨fun x => ?_, fun x y z h1 h2 => ?_, fun x y z h1 h2 => ?_⟩
  all_goals simp only [ltF_iff, decide_eq_true_eq, decide_eq_false_iff_not] at *
  all_goals omega
theorem cmpq_k (x y : UInt64) (W : World) : Calls Try.prog 18 #[encF x, encF y] W fun e w' => e = .returned (.int .i64 (cfF x y)) ∧ ∃ q, w' = W.drewN q := (cmpF_k x y W).mono fun e w' ⟨h1, h2⟩ => ⟨h1, 0, h2.symm⟩
def cmpO : Value := .func (.func 18) #[] #[]
/-- What a merge of [a, m) and [m, b) makes. -/
def Merged (a b g : Nat) (d : Array UInt64) (w : World) (e : Ending) (w' : World) : Prop := e = .returned (.tuple #[]) ∧ ∃ d' q, PermIn a b d d' ∧ SortedIn ltF a b d' ∧ w' = (putRow encF w g 0 d').drewN q
set_option maxHeartbeats 8000000 in
set_option maxRecDepth 100000 in
theorem sym_up (g cap N a b : Nat) (d : Array UInt64) (w : World) (hN : d.size = N) (hH : Holds encF w g 0 d) (hab : a + 1 < b) (hb : b ≤ N) (hsz : N ≤ 200) (hs2 : SortedIn ltF (a + 1) b d) :
    Calls Try.prog 35 #[.slice (some ⟨g, 0, none⟩) N cap, .int .i64 a, .int .i64 (a + 1 : Nat), .int .i64 b, .func (.func 18) #[] #[]] w (Merged a b g d w) := by
  have HST := Lib.hid (putRow_self encF w g 0 d hH).symm
  have HH := Lib.hid hH
  have HN := Lib.hid hN
  have HS := Lib.hid hs2
  clear hH hN hs2
  have hcl0 := encF_one.cells
  simp only [Value.cells] at hcl0
  have hst := encF_one.store Try.prog
  obtain ⟨m, hm⟩ : ∃ m, m = a + 1 := ⟨_, rfl⟩
  rw [← hm]
  have em : (m : Int) - (a : Int) = 1 := by omega
  have HM := Lib.hid hm
  clear hm
  go_enter Try.func35, Try.ntmps35
  go_wp2_with fail
  go_loopw [10, 11] (fun vi vj wr => ∃ (i j q : Nat), vi = .int .i64 i ∧ vj = .int .i64 j ∧ m ≤ i ∧ i ≤ j ∧ j ≤ b ∧ (m < i → ltF d[i - 1]! d[a]! = true) ∧ (j < b → ltF d[j]! d[a]! = false) ∧ wr = (putRow encF w g 0 d).drewN q) (fun vi vj _ => (intOf vj).toNat - (intOf vi).toNat)
  case atStart => exact ⟨m, b, 0, rfl, rfl, Nat.le_refl _, by have := HM.out; omega, Nat.le_refl _, fun h => absurd h (Nat.lt_irrefl _), fun h => absurd h (Nat.lt_irrefl _), HST.out⟩
  case round =>
    obtain ⟨i, j, q, rfl, rfl, hmi, hij, hjb, h1, h2, rfl⟩ := hrel
    have H1 := Lib.hid h1
    have H2 := Lib.hid h2
    clear h1 h2
    by_cases hlt : i < j
    · obtain ⟨ch, fh⟩ := fl_at HH.out rfl q ((i + j) / 2) (by have := HN.out; omega)
      obtain ⟨ca, fa⟩ := fl_at HH.out rfl q a (by have := HN.out; omega)
      have hlN : (i + j) / 2 < N := by omega
      have haN : a < N := by omega
      obtain ⟨xh, hxh⟩ : ∃ x, x = d[(i + j) / 2]! := ⟨_, rfl⟩
      obtain ⟨xa, hxa⟩ : ∃ x, x = d[a]! := ⟨_, rfl⟩
      rw [← hxh] at ch
      rw [← hxa] at ca
      have H3 := Lib.hid (show ltF d[(i + j) / 2]! d[a]! = decide (cfF xh xa < 0) by rw [hxh, hxa]; rfl)
      clear hxh hxa
      have hcq := fun W => cmpq_k xh xa W
      generalize hwq : (putRow encF w g 0 d).drewN q = wq at *
      have HW := Lib.hid hwq
      clear hwq
      by_cases hc : cfF xh xa < 0
      · have H4 := Lib.hid (H3.out.trans (decide_eq_true hc))
        have hd : decide (cfF xh xa < 0) = true := decide_eq_true hc
        generalize cfF xh xa = z at *
        clear hc H3
        go_wp2_with fail
        go_quiet (first | (go_at_call 18; refine Calls.quiet_of (hcq _)))
        go_wp2_with fail
        go_roundw
        case rel => exact ⟨(i + j) / 2 + 1, j, q + nq, by go_num, rfl, by omega, by omega, hjb, fun _ => by rw [Nat.add_sub_cancel]; exact H4.out, H2.out, by rw [← HW.out, World.drewN_drewN]⟩
        case measure => simp [intOf]; omega
      · have H4 := Lib.hid (H3.out.trans (decide_eq_false hc))
        have hd : decide (cfF xh xa < 0) = false := decide_eq_false hc
        generalize cfF xh xa = z at *
        clear hc H3
        go_wp2_with fail
        go_quiet (first | (go_at_call 18; refine Calls.quiet_of (hcq _)))
        go_wp2_with fail
        go_roundw
        case rel => exact ⟨i, (i + j) / 2, q + nq, rfl, by go_num, hmi, by omega, by omega, H1.out, fun _ => H4.out, by rw [← HW.out, World.drewN_drewN]⟩
        case measure => simp [intOf]; omega
    · obtain rfl : i = j := by omega
      have hae : a ≤ i := by have := HM.out; omega
      go_wp2_with fail
      go_loopw [13] (fun vk wr => ∃ (k q : Nat) (dk : Array UInt64), a ≤ k ∧ k + 1 ≤ i ∧ vk = .int .i64 k ∧ IsRot d dk a (a + 1) (k + 1) ∧ PermIn a b d dk ∧ wr = (putRow encF w g 0 dk).drewN q) (fun vk _ => i - (intOf vk).toNat)
      case atStart => exact ⟨a, q, d, Nat.le_refl _, by have := HM.out; omega, rfl, isRot_right d a (a + 1), permIn_refl _ _ _, rfl⟩
      case round =>
        obtain ⟨k, q2, dk, hk, hki, rfl, hrot, hpm, rfl⟩ := hrel
        have HR := Lib.hid hrot
        have HP := Lib.hid hpm
        have HSK := Lib.hid hpm.1
        clear hrot hpm
        by_cases hlt2 : k + 1 < i
        · obtain ⟨c1, f1⟩ := fl_at HH.out HSK.out q2 k (by have := HN.out; omega)
          obtain ⟨c2, f2⟩ := fl_at HH.out HSK.out q2 (k + 1) (by have := HN.out; omega)
          obtain ⟨x1, hx1⟩ : ∃ x, x = dk[k]! := ⟨_, rfl⟩
          obtain ⟨x2, hx2⟩ : ∃ x, x = dk[k + 1]! := ⟨_, rfl⟩
          rw [← hx1] at c1
          rw [← hx2] at c2
          have HX1 := Lib.hid hx1
          have HX2 := Lib.hid hx2
          clear hx1 hx2
          obtain ⟨k1, hk1⟩ : ∃ k1, k1 = k + 1 := ⟨_, rfl⟩
          rw [← hk1] at c2 f2
          have ek1 : (k : Int) + 1 = (k1 : Int) := by omega
          have HK1 := Lib.hid hk1
          have hl1 : k < N := by omega
          have hl2 : k1 < N := by omega
          have hne : k ≠ k1 := by omega
          have hd2 : decide ((k : Int) < (i : Int) - 1) = true := by simp; omega
          clear hk1
          generalize hwq : (putRow encF w g 0 dk).drewN q2 = wq at *
          have HW := Lib.hid hwq
          clear hwq
          go_wp2_with fail
          go_big_region
          all_goals go_wp2
          go_roundw
          case rel => exact ⟨k + 1, q2 + 1, swp dk k (k + 1), by omega, by omega, by go_num, rot_up HR.out hk (by have := HN.out; omega), permIn_trans _ _ _ _ _ HP.out (swp_permIn _ _ _ _ _ (by omega) (by omega) (by omega) (by omega) (by have := HN.out; have := HSK.out; omega)), by
            rw [← HW.out, HX1.out, HX2.out, HK1.out]
            have := swap_worldC encF w g 0 dk q2 k (k + 1) (by have := HN.out; have := HSK.out; omega) (by have := HN.out; have := HSK.out; omega)
            rwa [Nat.zero_add, Nat.zero_add] at this⟩
          case measure => simp [intOf]; omega
        · obtain rfl : i = k + 1 := by omega
          have hd2 : decide ((k : Int) < ((k + 1 : Nat) : Int) - 1) = false := by simp
          go_wp2_with fail
          go_end0
          exact ⟨rfl, dk, q2, HP.out, one_up ltF_swo HR.out HS.out (by have := HM.out; omega) hjb (fun h => H1.out (by have := HM.out; omega)) H2.out, rfl⟩
set_option maxHeartbeats 8000000 in
set_option maxRecDepth 100000 in
theorem sym_down (g cap N a m : Nat) (d : Array UInt64) (w : World) (hN : d.size = N) (hH : Holds encF w g 0 d) (ham : a + 1 < m) (hb : m + 1 ≤ N) (hsz : N ≤ 200) (hs2 : SortedIn ltF a m d) :
    Calls Try.prog 35 #[.slice (some ⟨g, 0, none⟩) N cap, .int .i64 a, .int .i64 m, .int .i64 (m + 1 : Nat), .func (.func 18) #[] #[]] w (Merged a (m + 1) g d w) := by
  have HST := Lib.hid (putRow_self encF w g 0 d hH).symm
  have HH := Lib.hid hH
  have HN := Lib.hid hN
  have HS := Lib.hid hs2
  clear hH hN hs2
  have hcl0 := encF_one.cells
  simp only [Value.cells] at hcl0
  have hst := encF_one.store Try.prog
  obtain ⟨b, hm⟩ : ∃ b, b = m + 1 := ⟨_, rfl⟩
  rw [← hm]
  have em : (b : Int) - (m : Int) = 1 := by omega
  have em0 : ((m : Int) - (a : Int) == 1) = false := by simp; omega
  have HM := Lib.hid hm
  clear hm
  go_enter Try.func35, Try.ntmps35
  go_wp2_with fail
  go_loopw [14, 15] (fun vi vj wr => ∃ (i j q : Nat), vi = .int .i64 i ∧ vj = .int .i64 j ∧ a ≤ i ∧ i ≤ j ∧ j ≤ m ∧ (a < i → ltF d[m]! d[i - 1]! = false) ∧ (j < m → ltF d[m]! d[j]! = true) ∧ wr = (putRow encF w g 0 d).drewN q) (fun vi vj _ => (intOf vj).toNat - (intOf vi).toNat)
  case atStart => exact ⟨a, m, 0, rfl, rfl, Nat.le_refl _, by omega, Nat.le_refl _, fun h => absurd h (Nat.lt_irrefl _), fun h => absurd h (Nat.lt_irrefl _), HST.out⟩
  case round =>
    obtain ⟨i, j, q, rfl, rfl, hmi, hij, hjb, h1, h2, rfl⟩ := hrel
    have H1 := Lib.hid h1
    have H2 := Lib.hid h2
    clear h1 h2
    by_cases hlt : i < j
    · obtain ⟨ch, fh⟩ := fl_at HH.out rfl q ((i + j) / 2) (by have := HN.out; omega)
      obtain ⟨ca, fa⟩ := fl_at HH.out rfl q m (by have := HN.out; omega)
      have hlN : (i + j) / 2 < N := by omega
      have haN : m < N := by omega
      obtain ⟨xh, hxh⟩ : ∃ x, x = d[(i + j) / 2]! := ⟨_, rfl⟩
      obtain ⟨xa, hxa⟩ : ∃ x, x = d[m]! := ⟨_, rfl⟩
      rw [← hxh] at ch
      rw [← hxa] at ca
      have H3 := Lib.hid (show ltF d[m]! d[(i + j) / 2]! = decide (cfF xa xh < 0) by rw [hxh, hxa]; rfl)
      clear hxh hxa
      have hcq := fun W => cmpq_k xa xh W
      generalize hwq : (putRow encF w g 0 d).drewN q = wq at *
      have HW := Lib.hid hwq
      clear hwq
      by_cases hc : cfF xa xh < 0
      · have H4 := Lib.hid (H3.out.trans (decide_eq_true hc))
        have hd : decide (cfF xa xh < 0) = true := decide_eq_true hc
        generalize cfF xa xh = z at *
        clear hc H3
        go_wp2_with fail
        go_quiet (first | (go_at_call 18; refine Calls.quiet_of (hcq _)))
        go_wp2_with fail
        go_roundw
        case rel => exact ⟨i, (i + j) / 2, q + nq, rfl, by go_num, hmi, by omega, by omega, H1.out, fun _ => H4.out, by rw [← HW.out, World.drewN_drewN]⟩
        case measure => simp [intOf]; omega
      · have H4 := Lib.hid (H3.out.trans (decide_eq_false hc))
        have hd : decide (cfF xa xh < 0) = false := decide_eq_false hc
        generalize cfF xa xh = z at *
        clear hc H3
        go_wp2_with fail
        go_quiet (first | (go_at_call 18; refine Calls.quiet_of (hcq _)))
        go_wp2_with fail
        go_roundw
        case rel => exact ⟨(i + j) / 2 + 1, j, q + nq, by go_num, rfl, by omega, by omega, hjb, fun _ => by rw [Nat.add_sub_cancel]; exact H4.out, H2.out, by rw [← HW.out, World.drewN_drewN]⟩
        case measure => simp [intOf]; omega
    · obtain rfl : i = j := by omega
      go_wp2_with fail
      go_loopw [17] (fun vk wr => ∃ (k q : Nat) (dk : Array UInt64), i ≤ k ∧ k ≤ m ∧ vk = .int .i64 k ∧ IsRot d dk k m (m + 1) ∧ PermIn a (m + 1) d dk ∧ wr = (putRow encF w g 0 dk).drewN q) (fun vk _ => (intOf vk).toNat)
      case atStart => exact ⟨m, q, d, hjb, Nat.le_refl _, rfl, isRot_left d m (m + 1), permIn_refl _ _ _, rfl⟩
      case round =>
        obtain ⟨k, q2, dk, hk, hkm, rfl, hrot, hpm, rfl⟩ := hrel
        have HR := Lib.hid hrot
        have HP := Lib.hid hpm
        have HSK := Lib.hid hpm.1
        clear hrot hpm
        by_cases hlt2 : i < k
        · obtain ⟨kp, hkp⟩ : ∃ kp, kp = k - 1 := ⟨_, rfl⟩
          obtain ⟨c1, f1⟩ := fl_at HH.out HSK.out q2 k (by have := HN.out; omega)
          obtain ⟨c2, f2⟩ := fl_at HH.out HSK.out q2 kp (by have := HN.out; omega)
          obtain ⟨x1, hx1⟩ : ∃ x, x = dk[k]! := ⟨_, rfl⟩
          obtain ⟨x2, hx2⟩ : ∃ x, x = dk[kp]! := ⟨_, rfl⟩
          rw [← hx1] at c1
          rw [← hx2] at c2
          have HX1 := Lib.hid hx1
          have HX2 := Lib.hid hx2
          clear hx1 hx2
          have ek1 : (k : Int) - 1 = (kp : Int) := by omega
          have HK1 := Lib.hid (show k = kp + 1 by omega)
          have hl1 : k < N := by omega
          have hl2 : kp < N := by omega
          have hne : k ≠ kp := by omega
          clear hkp
          generalize hwq : (putRow encF w g 0 dk).drewN q2 = wq at *
          have HW := Lib.hid hwq
          clear hwq
          go_wp2_with fail
          go_big_region
          all_goals go_wp2
          go_roundw
          case rel => exact ⟨kp, q2 + 1, swp dk k kp, by have := HK1.out; omega, by have := HK1.out; omega, by first | rfl | go_num | (congr 1; omega), by
            have h := HR.out
            rw [HK1.out] at h ⊢
            exact rot_down h (by have := HK1.out; omega) (by have := HN.out; omega), permIn_trans _ _ _ _ _ HP.out (swp_permIn _ _ _ _ _ (by have := HK1.out; omega) (by omega) (by have := HK1.out; omega) (by omega) (by have := HN.out; have := HSK.out; omega)), by
            rw [← HW.out, HX1.out, HX2.out]
            have := swap_worldC encF w g 0 dk q2 k kp (by have := HN.out; have := HSK.out; omega) (by have := HN.out; have := HSK.out; omega)
            rwa [Nat.zero_add, Nat.zero_add] at this⟩
          case measure => have := HK1.out; simp [intOf]; omega
        · obtain rfl : i = k := by omega
          go_wp2_with fail
          go_end0
          exact ⟨rfl, dk, q2, by rw [HM.out]; exact HP.out, by rw [HM.out]; exact one_down ltF_swo HR.out HS.out hmi hkm H1.out H2.out, rfl⟩
set_option maxHeartbeats 16000000 in
set_option maxRecDepth 100000 in
theorem sym_main (g cap N a m b : Nat) (d : Array UInt64) (w : World) (hN : d.size = N) (hH : Holds encF w g 0 d) (ham : a + 1 < m) (hmb : m + 1 < b) (hb : b ≤ N) (hsz : N ≤ 200) (hs1 : SortedIn ltF a m d) (hs2 : SortedIn ltF m b d)
    (hih : ∀ (a' m' b' : Nat) (dk : Array UInt64) (q : Nat), dk.size = d.size → b' - a' < b - a → a' < m' → m' < b' → b' ≤ N → SortedIn ltF a' m' dk → SortedIn ltF m' b' dk → Calls Try.prog 35 #[.slice (some ⟨g, 0, none⟩) N cap, .int .i64 a', .int .i64 m', .int .i64 b', .func (.func 18) #[] #[]] ((putRow encF w g 0 dk).drewN q) fun e w' => e = .returned (.tuple #[]) ∧ ∃ d' q', PermIn a' b' dk d' ∧ SortedIn ltF a' b' d' ∧ w' = (putRow encF w g 0 d').drewN q') :
    Calls Try.prog 35 #[.slice (some ⟨g, 0, none⟩) N cap, .int .i64 a, .int .i64 m, .int .i64 b, .func (.func 18) #[] #[]] w (Merged a b g d w) := by
  have HST := Lib.hid (putRow_self encF w g 0 d hH).symm
  have HH := Lib.hid hH
  have HN := Lib.hid hN
  have hrot : ∀ (q s e : Nat), s < m → m < e → e ≤ N → Calls Try.prog 40 #[.slice (some ⟨g, 0, none⟩) N cap, .int .i64 s, .int .i64 m, .int .i64 e, .func (.func 18) #[] #[]] ((putRow encF w g 0 d).drewN q) fun e' w' => e' = .returned (.tuple #[]) ∧ ∃ d' q', IsRot d d' s m e ∧ PermIn s e d d' ∧ w' = (putRow encF w g 0 d').drewN q' := fun q s e h1 h2 h3 => (rot_k g cap N s m e _ d _ hN (fl_holds hH rfl q) h1 h2 h3 hsz).mono fun e' w' ⟨he, d', q', k1, k2, hw⟩ => ⟨he, d', q + q', k1, k2, by rw [hw, fl_put _ _ _ _ _ _ k1.1]⟩
  have HS1 := Lib.hid hs1
  have HS2 := Lib.hid hs2
  clear hH hN hs1 hs2
  have em1 : ((m : Int) - (a : Int) == 1) = false := by simp; omega
  have em2 : ((b : Int) - (m : Int) == 1) = false := by simp; omega
  obtain ⟨mid, hmid⟩ : ∃ x, x = (a + b) / 2 := ⟨_, rfl⟩
  have emid : ((a : Int) + (b : Int)) / 2 = (mid : Int) := by omega
  have HMID := Lib.hid hmid
  have hmid1 : a < mid := by omega
  have hmid2 : mid < b := by omega
  have hmid3 : mid + mid ≤ a + b := by omega
  have hmid4 : a + b ≤ mid + mid + 1 := by omega
  by_cases hmm : mid < m
  · have dmm : decide ((mid : Int) < (m : Int)) = true := by simp; omega
    obtain ⟨n, hn⟩ : ∃ x, x = mid + m := ⟨_, rfl⟩
    have en : (mid : Int) + (m : Int) = (n : Int) := by omega
    obtain ⟨p, hp⟩ : ∃ x, x = n - 1 := ⟨_, rfl⟩
    have ep : (n : Int) - 1 = (p : Int) := by omega
    obtain ⟨lo, hlo⟩ : ∃ x, x = n - b := ⟨_, rfl⟩
    obtain ⟨hi, hhi⟩ : ∃ x, x = mid := ⟨_, rfl⟩
    have elo : (n : Int) - (b : Int) = (lo : Int) := by omega
    have hlohi : lo ≤ hi := by omega
    have HLO := Lib.hid hlo
    have HHI := Lib.hid hhi
    have HNN := Lib.hid hn
    have HPP := Lib.hid hp
    clear hlo hhi hn hp hmid
    go_enter Try.func35, Try.ntmps35
    go_wp2_with fail
    have hlo1 := Nat.le_of_eq HLO.out
    have hlo2 := Nat.le_of_eq HLO.out.symm
    have hhi1 := Nat.le_of_eq HHI.out
    have hhi2 := Nat.le_of_eq HHI.out.symm
    have hn1 := Nat.le_of_eq HNN.out
    have hn2 := Nat.le_of_eq HNN.out.symm
    have hp1 := Nat.le_of_eq HPP.out
    have hp2 := Nat.le_of_eq HPP.out.symm
    go_loopw [20, 21] (fun vi vj wr => ∃ (s r q : Nat), vi = .int .i64 s ∧ vj = .int .i64 r ∧ lo ≤ s ∧ s ≤ r ∧ r ≤ hi ∧ (lo < s → ltF d[p - (s - 1)]! d[s - 1]! = false) ∧ (r < hi → ltF d[p - r]! d[r]! = true) ∧ wr = (putRow encF w g 0 d).drewN q) (fun vi vj _ => (intOf vj).toNat - (intOf vi).toNat)
    case atStart => exact ⟨lo, hi, 0, rfl, by rw [HHI.out], Nat.le_refl _, hlohi, Nat.le_refl _, fun h => absurd h (Nat.lt_irrefl _), fun h => absurd h (Nat.lt_irrefl _), HST.out⟩
    case round =>
      obtain ⟨s, r, q, rfl, rfl, hls, hsr, hrh, h1, h2, rfl⟩ := hrel
      have H1 := Lib.hid h1
      have H2 := Lib.hid h2
      clear h1 h2
      by_cases hlt : s < r
      · obtain ⟨pc, hpc⟩ : ∃ x, x = p - (s + r) / 2 := ⟨_, rfl⟩
        have epc : (p : Int) - ((s : Int) + (r : Int)) / 2 = (pc : Int) := by omega
        obtain ⟨ch, fh⟩ := fl_at HH.out rfl q ((s + r) / 2) (by have := HN.out; omega)
        obtain ⟨ca, fa⟩ := fl_at HH.out rfl q pc (by have := HN.out; omega)
        have hlN : (s + r) / 2 < N := by omega
        have haN : pc < N := by omega
        obtain ⟨xh, hxh⟩ : ∃ x, x = d[(s + r) / 2]! := ⟨_, rfl⟩
        obtain ⟨xa, hxa⟩ : ∃ x, x = d[pc]! := ⟨_, rfl⟩
        rw [← hxh] at ch
        rw [← hxa] at ca
        have H3 := Lib.hid (show ltF d[p - (s + r) / 2]! d[(s + r) / 2]! = decide (cfF xa xh < 0) by rw [← hpc, hxh, hxa]; rfl)
        clear hxh hxa hpc
        have hcq := fun W => cmpq_k xa xh W
        generalize hwq : (putRow encF w g 0 d).drewN q = wq at *
        have HW := Lib.hid hwq
        clear hwq
        by_cases hc : cfF xa xh < 0
        · have H4 := Lib.hid (H3.out.trans (decide_eq_true hc))
          have hd : decide (cfF xa xh < 0) = true := decide_eq_true hc
          generalize cfF xa xh = z at *
          clear hc H3 hih hrot
          go_wp2_with fail
          go_quiet (first | (go_at_call 18; refine Calls.quiet_of (hcq _)))
          go_wp2_with fail
          go_roundw
          case rel => exact ⟨s, (s + r) / 2, q + nq, rfl, by go_num, hls, by omega, by omega, H1.out, fun _ => H4.out, by rw [← HW.out, World.drewN_drewN]⟩
          case measure => simp [intOf]; omega
        · have H4 := Lib.hid (H3.out.trans (decide_eq_false hc))
          have hd : decide (cfF xa xh < 0) = false := decide_eq_false hc
          generalize cfF xa xh = z at *
          clear hc H3 hih hrot
          go_wp2_with fail
          go_quiet (first | (go_at_call 18; refine Calls.quiet_of (hcq _)))
          go_wp2_with fail
          go_roundw
          case rel => exact ⟨(s + r) / 2 + 1, r, q + nq, by go_num, rfl, by omega, by omega, hrh, fun _ => by rw [Nat.add_sub_cancel]; exact H4.out, H2.out, by rw [← HW.out, World.drewN_drewN]⟩
          case measure => simp [intOf]; omega
      · obtain rfl : s = r := by omega
        obtain ⟨e, he⟩ : ∃ x, x = n - s := ⟨_, rfl⟩
        have ee : (n : Int) - (s : Int) = (e : Int) := by omega
        have hme : m ≤ e := by omega
        have heb : e ≤ b := by omega
        have hsm : s ≤ m := by omega
        have has : a ≤ s := by omega
        have hms : mid = s + (e - m) := by omega
        have C1 := Lib.hid (show a < s → e < b → ltF d[e]! d[s - 1]! = false from fun g1 g2 => by
          have := H1.out (by omega)
          rwa [show p - (s - 1) = e by omega] at this)
        have C2 := Lib.hid (show s < m → m < e → ltF d[e - 1]! d[s]! = true from fun g1 g2 => by
          have := H2.out (by omega)
          rwa [show p - s = e - 1 by omega] at this)
        have HHV := fun (d1 : Array UInt64) (hr : IsRot d d1 s m e) => halves_of ltF_swo hr HS1.out HS2.out has hsm hme heb hms C1.out C2.out
        have hihl := fun d1 q h => hih a s mid d1 q h (by omega)
        have hihr := fun d1 q h => hih mid e b d1 q h (by omega)
        have hrq := fun h1 h2 => hrot q s e h1 h2 (by omega)
        clear hih hrot H1 H2 C1 C2
        have HMS := Lib.hid hms
        have HE := Lib.hid he
        clear he hms
        have hms1 := Nat.le_of_eq HMS.out
        have hms2 := Nat.le_of_eq HMS.out.symm
        have he1 := Nat.le_of_eq HE.out
        have he2 := Nat.le_of_eq HE.out.symm
        by_cases bP : s < m
        · by_cases bQ : m < e
          · by_cases bA : a < s
            · by_cases bB : e < b
              · have dP : decide ((s : Int) < (m : Int)) = true := decide_eq_true (by omega)
                have dQ : decide ((m : Int) < (e : Int)) = true := decide_eq_true (by omega)
                have dA : decide ((a : Int) < (s : Int)) = true := decide_eq_true (by omega)
                have dM : decide ((s : Int) < (mid : Int)) = true := decide_eq_true (by omega)
                have dN : decide ((mid : Int) < (e : Int)) = true := decide_eq_true (by omega)
                have dB : decide ((e : Int) < (b : Int)) = true := decide_eq_true (by omega)
                go_wp2_with (first
                    | (go_at_call 40; (with_reducible refine (hrq (by omega) (by omega)).mono ?_); rintro e1 w1 ⟨rfl, d1, q1, hr1, hp1, rfl⟩; have hH := HHV d1 hr1; have hz1 := hr1.1)
                    | (go_at_call 35; (with_reducible refine (hihl d1 q1 hz1 (by omega) (by omega) (by omega) hH.p1 hH.p2).mono ?_); rintro e1 w1 ⟨rfl, d2, q2, hp2, hs2, rfl⟩; have hx1 := (hp2).1.trans hz1; have hx2 := sorted_keep hH.p3 hp2 (.inr (Nat.le_refl _)); have hx3 := sorted_keep hH.p4 hp2 (.inr (by omega : mid ≤ e)))
                    | (go_at_call 35; (with_reducible refine (hihr d2 q2 hx1 (by omega) (by omega) (by omega) hx2 hx3).mono ?_); rintro e1 w1 ⟨rfl, d3, q3, hp3, hs3, rfl⟩)
                    )
                all_goals go_end0
                all_goals have hfin := halves_done hH (by omega) (by omega) (by have := HN.out; omega) hp2 hs2 hp3 hs3
                all_goals exact ⟨rfl, d3, q3, permIn_trans _ _ _ _ _ (permIn_mono _ _ _ _ _ _ has heb (by have := HN.out; omega) hp1) hfin.1, hfin.2, rfl⟩
              · have dP : decide ((s : Int) < (m : Int)) = true := decide_eq_true (by omega)
                have dQ : decide ((m : Int) < (e : Int)) = true := decide_eq_true (by omega)
                have dA : decide ((a : Int) < (s : Int)) = true := decide_eq_true (by omega)
                have dM : decide ((s : Int) < (mid : Int)) = true := decide_eq_true (by omega)
                have dN : decide ((mid : Int) < (e : Int)) = true := decide_eq_true (by omega)
                have dB : decide ((e : Int) < (b : Int)) = false := decide_eq_false (by omega)
                go_wp2_with (first
                    | (go_at_call 40; (with_reducible refine (hrq (by omega) (by omega)).mono ?_); rintro e1 w1 ⟨rfl, d1, q1, hr1, hp1, rfl⟩; have hH := HHV d1 hr1; have hz1 := hr1.1)
                    | (go_at_call 35; (with_reducible refine (hihl d1 q1 hz1 (by omega) (by omega) (by omega) hH.p1 hH.p2).mono ?_); rintro e1 w1 ⟨rfl, d2, q2, hp2, hs2, rfl⟩)
                    )
                all_goals go_end0
                all_goals have hfin := halves_done hH (by omega) (by omega) (by have := HN.out; omega) hp2 hs2 (permIn_refl d2 mid b) (sorted_keep (halves_right hH (by omega) (by omega)) hp2 (.inr (Nat.le_refl _)))
                all_goals exact ⟨rfl, d2, q2, permIn_trans _ _ _ _ _ (permIn_mono _ _ _ _ _ _ has heb (by have := HN.out; omega) hp1) hfin.1, hfin.2, rfl⟩
            · by_cases bB : e < b
              · have dP : decide ((s : Int) < (m : Int)) = true := decide_eq_true (by omega)
                have dQ : decide ((m : Int) < (e : Int)) = true := decide_eq_true (by omega)
                have dA : decide ((a : Int) < (s : Int)) = false := decide_eq_false (by omega)
                have dM : decide ((s : Int) < (mid : Int)) = true := decide_eq_true (by omega)
                have dN : decide ((mid : Int) < (e : Int)) = true := decide_eq_true (by omega)
                have dB : decide ((e : Int) < (b : Int)) = true := decide_eq_true (by omega)
                go_wp2_with (first
                    | (go_at_call 40; (with_reducible refine (hrq (by omega) (by omega)).mono ?_); rintro e1 w1 ⟨rfl, d1, q1, hr1, hp1, rfl⟩; have hH := HHV d1 hr1; have hz1 := hr1.1; have hx1 := ((permIn_refl d1 a mid)).1.trans hz1; have hx2 := sorted_keep hH.p3 (permIn_refl d1 a mid) (.inr (Nat.le_refl _)); have hx3 := sorted_keep hH.p4 (permIn_refl d1 a mid) (.inr (by omega : mid ≤ e)))
                    | (go_at_call 35; (with_reducible refine (hihr d1 q1 hx1 (by omega) (by omega) (by omega) hx2 hx3).mono ?_); rintro e1 w1 ⟨rfl, d3, q3, hp3, hs3, rfl⟩)
                    )
                all_goals go_end0
                all_goals have hfin := halves_done hH (by omega) (by omega) (by have := HN.out; omega) (permIn_refl d1 a mid) (halves_left hH (by omega) (by omega)) hp3 hs3
                all_goals exact ⟨rfl, d3, q3, permIn_trans _ _ _ _ _ (permIn_mono _ _ _ _ _ _ has heb (by have := HN.out; omega) hp1) hfin.1, hfin.2, rfl⟩
              · have dP : decide ((s : Int) < (m : Int)) = true := decide_eq_true (by omega)
                have dQ : decide ((m : Int) < (e : Int)) = true := decide_eq_true (by omega)
                have dA : decide ((a : Int) < (s : Int)) = false := decide_eq_false (by omega)
                have dM : decide ((s : Int) < (mid : Int)) = true := decide_eq_true (by omega)
                have dN : decide ((mid : Int) < (e : Int)) = true := decide_eq_true (by omega)
                have dB : decide ((e : Int) < (b : Int)) = false := decide_eq_false (by omega)
                go_wp2_with (first
                    | (go_at_call 40; (with_reducible refine (hrq (by omega) (by omega)).mono ?_); rintro e1 w1 ⟨rfl, d1, q1, hr1, hp1, rfl⟩; have hH := HHV d1 hr1; have hz1 := hr1.1)
                    )
                all_goals go_end0
                all_goals have hfin := halves_done hH (by omega) (by omega) (by have := HN.out; omega) (permIn_refl d1 a mid) (halves_left hH (by omega) (by omega)) (permIn_refl d1 mid b) (sorted_keep (halves_right hH (by omega) (by omega)) (permIn_refl d1 a mid) (.inr (Nat.le_refl _)))
                all_goals exact ⟨rfl, d1, q1, permIn_trans _ _ _ _ _ (permIn_mono _ _ _ _ _ _ has heb (by have := HN.out; omega) hp1) hfin.1, hfin.2, rfl⟩
          · by_cases bA : a < s
            · by_cases bB : e < b
              · have dP : decide ((s : Int) < (m : Int)) = true := decide_eq_true (by omega)
                have dQ : decide ((m : Int) < (e : Int)) = false := decide_eq_false (by omega)
                have dA : decide ((a : Int) < (s : Int)) = true := decide_eq_true (by omega)
                have dM : decide ((s : Int) < (mid : Int)) = false := decide_eq_false (by omega)
                have dN : decide ((mid : Int) < (e : Int)) = true := decide_eq_true (by omega)
                have dB : decide ((e : Int) < (b : Int)) = true := decide_eq_true (by omega)
                have hr1 : IsRot d d s m e := isRot_r (by omega)
                have hp1 : PermIn s e d d := permIn_refl _ _ _
                have hH := HHV d hr1
                have hz1 : d.size = d.size := rfl
                have hx1 := ((permIn_refl d a mid)).1.trans hz1
                have hx2 := sorted_keep hH.p3 (permIn_refl d a mid) (.inr (Nat.le_refl _))
                have hx3 := sorted_keep hH.p4 (permIn_refl d a mid) (.inr (by omega : mid ≤ e))
                go_wp2_with (first
                    | (go_at_call 35; (with_reducible refine (hihr d q hx1 (by omega) (by omega) (by omega) hx2 hx3).mono ?_); rintro e1 w1 ⟨rfl, d3, q3, hp3, hs3, rfl⟩)
                    )
                all_goals go_end0
                all_goals have hfin := halves_done hH (by omega) (by omega) (by have := HN.out; omega) (permIn_refl d a mid) (halves_left hH (by omega) (by omega)) hp3 hs3
                all_goals exact ⟨rfl, d3, q3, permIn_trans _ _ _ _ _ (permIn_mono _ _ _ _ _ _ has heb (by have := HN.out; omega) hp1) hfin.1, hfin.2, rfl⟩
              · have dP : decide ((s : Int) < (m : Int)) = true := decide_eq_true (by omega)
                have dQ : decide ((m : Int) < (e : Int)) = false := decide_eq_false (by omega)
                have dA : decide ((a : Int) < (s : Int)) = true := decide_eq_true (by omega)
                have dM : decide ((s : Int) < (mid : Int)) = false := decide_eq_false (by omega)
                have dN : decide ((mid : Int) < (e : Int)) = true := decide_eq_true (by omega)
                have dB : decide ((e : Int) < (b : Int)) = false := decide_eq_false (by omega)
                have hr1 : IsRot d d s m e := isRot_r (by omega)
                have hp1 : PermIn s e d d := permIn_refl _ _ _
                have hH := HHV d hr1
                have hz1 : d.size = d.size := rfl
                go_wp2_with fail
                all_goals go_end0
                all_goals have hfin := halves_done hH (by omega) (by omega) (by have := HN.out; omega) (permIn_refl d a mid) (halves_left hH (by omega) (by omega)) (permIn_refl d mid b) (sorted_keep (halves_right hH (by omega) (by omega)) (permIn_refl d a mid) (.inr (Nat.le_refl _)))
                all_goals exact ⟨rfl, d, q, permIn_trans _ _ _ _ _ (permIn_mono _ _ _ _ _ _ has heb (by have := HN.out; omega) hp1) hfin.1, hfin.2, rfl⟩
            · by_cases bB : e < b
              · have dP : decide ((s : Int) < (m : Int)) = true := decide_eq_true (by omega)
                have dQ : decide ((m : Int) < (e : Int)) = false := decide_eq_false (by omega)
                have dA : decide ((a : Int) < (s : Int)) = false := decide_eq_false (by omega)
                have dM : decide ((s : Int) < (mid : Int)) = false := decide_eq_false (by omega)
                have dN : decide ((mid : Int) < (e : Int)) = true := decide_eq_true (by omega)
                have dB : decide ((e : Int) < (b : Int)) = true := decide_eq_true (by omega)
                have hr1 : IsRot d d s m e := isRot_r (by omega)
                have hp1 : PermIn s e d d := permIn_refl _ _ _
                have hH := HHV d hr1
                have hz1 : d.size = d.size := rfl
                have hx1 := ((permIn_refl d a mid)).1.trans hz1
                have hx2 := sorted_keep hH.p3 (permIn_refl d a mid) (.inr (Nat.le_refl _))
                have hx3 := sorted_keep hH.p4 (permIn_refl d a mid) (.inr (by omega : mid ≤ e))
                go_wp2_with (first
                    | (go_at_call 35; (with_reducible refine (hihr d q hx1 (by omega) (by omega) (by omega) hx2 hx3).mono ?_); rintro e1 w1 ⟨rfl, d3, q3, hp3, hs3, rfl⟩)
                    )
                all_goals go_end0
                all_goals have hfin := halves_done hH (by omega) (by omega) (by have := HN.out; omega) (permIn_refl d a mid) (halves_left hH (by omega) (by omega)) hp3 hs3
                all_goals exact ⟨rfl, d3, q3, permIn_trans _ _ _ _ _ (permIn_mono _ _ _ _ _ _ has heb (by have := HN.out; omega) hp1) hfin.1, hfin.2, rfl⟩
              · have dP : decide ((s : Int) < (m : Int)) = true := decide_eq_true (by omega)
                have dQ : decide ((m : Int) < (e : Int)) = false := decide_eq_false (by omega)
                have dA : decide ((a : Int) < (s : Int)) = false := decide_eq_false (by omega)
                have dM : decide ((s : Int) < (mid : Int)) = false := decide_eq_false (by omega)
                have dN : decide ((mid : Int) < (e : Int)) = true := decide_eq_true (by omega)
                have dB : decide ((e : Int) < (b : Int)) = false := decide_eq_false (by omega)
                have hr1 : IsRot d d s m e := isRot_r (by omega)
                have hp1 : PermIn s e d d := permIn_refl _ _ _
                have hH := HHV d hr1
                have hz1 : d.size = d.size := rfl
                go_wp2_with fail
                all_goals go_end0
                all_goals have hfin := halves_done hH (by omega) (by omega) (by have := HN.out; omega) (permIn_refl d a mid) (halves_left hH (by omega) (by omega)) (permIn_refl d mid b) (sorted_keep (halves_right hH (by omega) (by omega)) (permIn_refl d a mid) (.inr (Nat.le_refl _)))
                all_goals exact ⟨rfl, d, q, permIn_trans _ _ _ _ _ (permIn_mono _ _ _ _ _ _ has heb (by have := HN.out; omega) hp1) hfin.1, hfin.2, rfl⟩
        · by_cases bA : a < s
          · by_cases bQ : m < e
            · have dP : decide ((s : Int) < (m : Int)) = false := decide_eq_false (by omega)
              have dQ : decide ((m : Int) < (e : Int)) = true := decide_eq_true (by omega)
              have dA : decide ((a : Int) < (s : Int)) = true := decide_eq_true (by omega)
              have dM : decide ((s : Int) < (mid : Int)) = true := decide_eq_true (by omega)
              have dN : decide ((mid : Int) < (e : Int)) = false := decide_eq_false (by omega)
              have hr1 : IsRot d d s m e := isRot_l (by omega)
              have hp1 : PermIn s e d d := permIn_refl _ _ _
              have hH := HHV d hr1
              have hz1 : d.size = d.size := rfl
              go_wp2_with (first
                  | (go_at_call 35; (with_reducible refine (hihl d q hz1 (by omega) (by omega) (by omega) hH.p1 hH.p2).mono ?_); rintro e1 w1 ⟨rfl, d2, q2, hp2, hs2, rfl⟩)
                  )
              all_goals go_end0
              all_goals have hfin := halves_done hH (by omega) (by omega) (by have := HN.out; omega) hp2 hs2 (permIn_refl d2 mid b) (sorted_keep (halves_right hH (by omega) (by omega)) hp2 (.inr (Nat.le_refl _)))
              all_goals exact ⟨rfl, d2, q2, permIn_trans _ _ _ _ _ (permIn_mono _ _ _ _ _ _ has heb (by have := HN.out; omega) hp1) hfin.1, hfin.2, rfl⟩
            · have dP : decide ((s : Int) < (m : Int)) = false := decide_eq_false (by omega)
              have dQ : decide ((m : Int) < (e : Int)) = false := decide_eq_false (by omega)
              have dA : decide ((a : Int) < (s : Int)) = true := decide_eq_true (by omega)
              have dM : decide ((s : Int) < (mid : Int)) = false := decide_eq_false (by omega)
              have dN : decide ((mid : Int) < (e : Int)) = false := decide_eq_false (by omega)
              have hr1 : IsRot d d s m e := isRot_l (by omega)
              have hp1 : PermIn s e d d := permIn_refl _ _ _
              have hH := HHV d hr1
              have hz1 : d.size = d.size := rfl
              go_wp2_with fail
              all_goals go_end0
              all_goals have hfin := halves_done hH (by omega) (by omega) (by have := HN.out; omega) (permIn_refl d a mid) (halves_left hH (by omega) (by omega)) (permIn_refl d mid b) (sorted_keep (halves_right hH (by omega) (by omega)) (permIn_refl d a mid) (.inr (Nat.le_refl _)))
              all_goals exact ⟨rfl, d, q, permIn_trans _ _ _ _ _ (permIn_mono _ _ _ _ _ _ has heb (by have := HN.out; omega) hp1) hfin.1, hfin.2, rfl⟩
          · by_cases bQ : m < e
            · have dP : decide ((s : Int) < (m : Int)) = false := decide_eq_false (by omega)
              have dQ : decide ((m : Int) < (e : Int)) = true := decide_eq_true (by omega)
              have dA : decide ((a : Int) < (s : Int)) = false := decide_eq_false (by omega)
              have dM : decide ((s : Int) < (mid : Int)) = true := decide_eq_true (by omega)
              have dN : decide ((mid : Int) < (e : Int)) = false := decide_eq_false (by omega)
              have hr1 : IsRot d d s m e := isRot_l (by omega)
              have hp1 : PermIn s e d d := permIn_refl _ _ _
              have hH := HHV d hr1
              have hz1 : d.size = d.size := rfl
              go_wp2_with fail
              all_goals go_end0
              all_goals have hfin := halves_done hH (by omega) (by omega) (by have := HN.out; omega) (permIn_refl d a mid) (halves_left hH (by omega) (by omega)) (permIn_refl d mid b) (sorted_keep (halves_right hH (by omega) (by omega)) (permIn_refl d a mid) (.inr (Nat.le_refl _)))
              all_goals exact ⟨rfl, d, q, permIn_trans _ _ _ _ _ (permIn_mono _ _ _ _ _ _ has heb (by have := HN.out; omega) hp1) hfin.1, hfin.2, rfl⟩
            · have dP : decide ((s : Int) < (m : Int)) = false := decide_eq_false (by omega)
              have dQ : decide ((m : Int) < (e : Int)) = false := decide_eq_false (by omega)
              have dA : decide ((a : Int) < (s : Int)) = false := decide_eq_false (by omega)
              have dM : decide ((s : Int) < (mid : Int)) = false := decide_eq_false (by omega)
              have dN : decide ((mid : Int) < (e : Int)) = false := decide_eq_false (by omega)
              have hr1 : IsRot d d s m e := isRot_l (by omega)
              have hp1 : PermIn s e d d := permIn_refl _ _ _
              have hH := HHV d hr1
              have hz1 : d.size = d.size := rfl
              go_wp2_with fail
              all_goals go_end0
              all_goals have hfin := halves_done hH (by omega) (by omega) (by have := HN.out; omega) (permIn_refl d a mid) (halves_left hH (by omega) (by omega)) (permIn_refl d mid b) (sorted_keep (halves_right hH (by omega) (by omega)) (permIn_refl d a mid) (.inr (Nat.le_refl _)))
              all_goals exact ⟨rfl, d, q, permIn_trans _ _ _ _ _ (permIn_mono _ _ _ _ _ _ has heb (by have := HN.out; omega) hp1) hfin.1, hfin.2, rfl⟩
  · have dmm : decide ((mid : Int) < (m : Int)) = false := by simp; omega
    obtain ⟨n, hn⟩ : ∃ x, x = mid + m := ⟨_, rfl⟩
    have en : (mid : Int) + (m : Int) = (n : Int) := by omega
    obtain ⟨p, hp⟩ : ∃ x, x = n - 1 := ⟨_, rfl⟩
    have ep : (n : Int) - 1 = (p : Int) := by omega
    obtain ⟨lo, hlo⟩ : ∃ x, x = a := ⟨_, rfl⟩
    obtain ⟨hi, hhi⟩ : ∃ x, x = m := ⟨_, rfl⟩
    have hlohi : lo ≤ hi := by omega
    have HLO := Lib.hid hlo
    have HHI := Lib.hid hhi
    have HNN := Lib.hid hn
    have HPP := Lib.hid hp
    clear hlo hhi hn hp hmid
    go_enter Try.func35, Try.ntmps35
    go_wp2_with fail
    have hlo1 := Nat.le_of_eq HLO.out
    have hlo2 := Nat.le_of_eq HLO.out.symm
    have hhi1 := Nat.le_of_eq HHI.out
    have hhi2 := Nat.le_of_eq HHI.out.symm
    have hn1 := Nat.le_of_eq HNN.out
    have hn2 := Nat.le_of_eq HNN.out.symm
    have hp1 := Nat.le_of_eq HPP.out
    have hp2 := Nat.le_of_eq HPP.out.symm
    go_loopw [20, 21] (fun vi vj wr => ∃ (s r q : Nat), vi = .int .i64 s ∧ vj = .int .i64 r ∧ lo ≤ s ∧ s ≤ r ∧ r ≤ hi ∧ (lo < s → ltF d[p - (s - 1)]! d[s - 1]! = false) ∧ (r < hi → ltF d[p - r]! d[r]! = true) ∧ wr = (putRow encF w g 0 d).drewN q) (fun vi vj _ => (intOf vj).toNat - (intOf vi).toNat)
    case atStart => exact ⟨lo, hi, 0, by rw [HLO.out], by rw [HHI.out], Nat.le_refl _, hlohi, Nat.le_refl _, fun h => absurd h (Nat.lt_irrefl _), fun h => absurd h (Nat.lt_irrefl _), HST.out⟩
    case round =>
      obtain ⟨s, r, q, rfl, rfl, hls, hsr, hrh, h1, h2, rfl⟩ := hrel
      have H1 := Lib.hid h1
      have H2 := Lib.hid h2
      clear h1 h2
      by_cases hlt : s < r
      · obtain ⟨pc, hpc⟩ : ∃ x, x = p - (s + r) / 2 := ⟨_, rfl⟩
        have epc : (p : Int) - ((s : Int) + (r : Int)) / 2 = (pc : Int) := by omega
        obtain ⟨ch, fh⟩ := fl_at HH.out rfl q ((s + r) / 2) (by have := HN.out; omega)
        obtain ⟨ca, fa⟩ := fl_at HH.out rfl q pc (by have := HN.out; omega)
        have hlN : (s + r) / 2 < N := by omega
        have haN : pc < N := by omega
        obtain ⟨xh, hxh⟩ : ∃ x, x = d[(s + r) / 2]! := ⟨_, rfl⟩
        obtain ⟨xa, hxa⟩ : ∃ x, x = d[pc]! := ⟨_, rfl⟩
        rw [← hxh] at ch
        rw [← hxa] at ca
        have H3 := Lib.hid (show ltF d[p - (s + r) / 2]! d[(s + r) / 2]! = decide (cfF xa xh < 0) by rw [← hpc, hxh, hxa]; rfl)
        clear hxh hxa hpc
        have hcq := fun W => cmpq_k xa xh W
        generalize hwq : (putRow encF w g 0 d).drewN q = wq at *
        have HW := Lib.hid hwq
        clear hwq
        by_cases hc : cfF xa xh < 0
        · have H4 := Lib.hid (H3.out.trans (decide_eq_true hc))
          have hd : decide (cfF xa xh < 0) = true := decide_eq_true hc
          generalize cfF xa xh = z at *
          clear hc H3 hih hrot
          go_wp2_with fail
          go_quiet (first | (go_at_call 18; refine Calls.quiet_of (hcq _)))
          go_wp2_with fail
          go_roundw
          case rel => exact ⟨s, (s + r) / 2, q + nq, rfl, by go_num, hls, by omega, by omega, H1.out, fun _ => H4.out, by rw [← HW.out, World.drewN_drewN]⟩
          case measure => simp [intOf]; omega
        · have H4 := Lib.hid (H3.out.trans (decide_eq_false hc))
          have hd : decide (cfF xa xh < 0) = false := decide_eq_false hc
          generalize cfF xa xh = z at *
          clear hc H3 hih hrot
          go_wp2_with fail
          go_quiet (first | (go_at_call 18; refine Calls.quiet_of (hcq _)))
          go_wp2_with fail
          go_roundw
          case rel => exact ⟨(s + r) / 2 + 1, r, q + nq, by go_num, rfl, by omega, by omega, hrh, fun _ => by rw [Nat.add_sub_cancel]; exact H4.out, H2.out, by rw [← HW.out, World.drewN_drewN]⟩
          case measure => simp [intOf]; omega
      · obtain rfl : s = r := by omega
        obtain ⟨e, he⟩ : ∃ x, x = n - s := ⟨_, rfl⟩
        have ee : (n : Int) - (s : Int) = (e : Int) := by omega
        have hme : m ≤ e := by omega
        have heb : e ≤ b := by omega
        have hsm : s ≤ m := by omega
        have has : a ≤ s := by omega
        have hms : mid = s + (e - m) := by omega
        have C1 := Lib.hid (show a < s → e < b → ltF d[e]! d[s - 1]! = false from fun g1 g2 => by
          have := H1.out (by omega)
          rwa [show p - (s - 1) = e by omega] at this)
        have C2 := Lib.hid (show s < m → m < e → ltF d[e - 1]! d[s]! = true from fun g1 g2 => by
          have := H2.out (by omega)
          rwa [show p - s = e - 1 by omega] at this)
        have HHV := fun (d1 : Array UInt64) (hr : IsRot d d1 s m e) => halves_of ltF_swo hr HS1.out HS2.out has hsm hme heb hms C1.out C2.out
        have hihl := fun d1 q h => hih a s mid d1 q h (by omega)
        have hihr := fun d1 q h => hih mid e b d1 q h (by omega)
        have hrq := fun h1 h2 => hrot q s e h1 h2 (by omega)
        clear hih hrot H1 H2 C1 C2
        have HMS := Lib.hid hms
        have HE := Lib.hid he
        clear he hms
        have hms1 := Nat.le_of_eq HMS.out
        have hms2 := Nat.le_of_eq HMS.out.symm
        have he1 := Nat.le_of_eq HE.out
        have he2 := Nat.le_of_eq HE.out.symm
        by_cases bP : s < m
        · by_cases bQ : m < e
          · by_cases bA : a < s
            · by_cases bB : e < b
              · have dP : decide ((s : Int) < (m : Int)) = true := decide_eq_true (by omega)
                have dQ : decide ((m : Int) < (e : Int)) = true := decide_eq_true (by omega)
                have dA : decide ((a : Int) < (s : Int)) = true := decide_eq_true (by omega)
                have dM : decide ((s : Int) < (mid : Int)) = true := decide_eq_true (by omega)
                have dN : decide ((mid : Int) < (e : Int)) = true := decide_eq_true (by omega)
                have dB : decide ((e : Int) < (b : Int)) = true := decide_eq_true (by omega)
                go_wp2_with (first
                    | (go_at_call 40; (with_reducible refine (hrq (by omega) (by omega)).mono ?_); rintro e1 w1 ⟨rfl, d1, q1, hr1, hp1, rfl⟩; have hH := HHV d1 hr1; have hz1 := hr1.1)
                    | (go_at_call 35; (with_reducible refine (hihl d1 q1 hz1 (by omega) (by omega) (by omega) hH.p1 hH.p2).mono ?_); rintro e1 w1 ⟨rfl, d2, q2, hp2, hs2, rfl⟩; have hx1 := (hp2).1.trans hz1; have hx2 := sorted_keep hH.p3 hp2 (.inr (Nat.le_refl _)); have hx3 := sorted_keep hH.p4 hp2 (.inr (by omega : mid ≤ e)))
                    | (go_at_call 35; (with_reducible refine (hihr d2 q2 hx1 (by omega) (by omega) (by omega) hx2 hx3).mono ?_); rintro e1 w1 ⟨rfl, d3, q3, hp3, hs3, rfl⟩)
                    )
                all_goals go_end0
                all_goals have hfin := halves_done hH (by omega) (by omega) (by have := HN.out; omega) hp2 hs2 hp3 hs3
                all_goals exact ⟨rfl, d3, q3, permIn_trans _ _ _ _ _ (permIn_mono _ _ _ _ _ _ has heb (by have := HN.out; omega) hp1) hfin.1, hfin.2, rfl⟩
              · have dP : decide ((s : Int) < (m : Int)) = true := decide_eq_true (by omega)
                have dQ : decide ((m : Int) < (e : Int)) = true := decide_eq_true (by omega)
                have dA : decide ((a : Int) < (s : Int)) = true := decide_eq_true (by omega)
                have dM : decide ((s : Int) < (mid : Int)) = true := decide_eq_true (by omega)
                have dN : decide ((mid : Int) < (e : Int)) = true := decide_eq_true (by omega)
                have dB : decide ((e : Int) < (b : Int)) = false := decide_eq_false (by omega)
                go_wp2_with (first
                    | (go_at_call 40; (with_reducible refine (hrq (by omega) (by omega)).mono ?_); rintro e1 w1 ⟨rfl, d1, q1, hr1, hp1, rfl⟩; have hH := HHV d1 hr1; have hz1 := hr1.1)
                    | (go_at_call 35; (with_reducible refine (hihl d1 q1 hz1 (by omega) (by omega) (by omega) hH.p1 hH.p2).mono ?_); rintro e1 w1 ⟨rfl, d2, q2, hp2, hs2, rfl⟩)
                    )
                all_goals go_end0
                all_goals have hfin := halves_done hH (by omega) (by omega) (by have := HN.out; omega) hp2 hs2 (permIn_refl d2 mid b) (sorted_keep (halves_right hH (by omega) (by omega)) hp2 (.inr (Nat.le_refl _)))
                all_goals exact ⟨rfl, d2, q2, permIn_trans _ _ _ _ _ (permIn_mono _ _ _ _ _ _ has heb (by have := HN.out; omega) hp1) hfin.1, hfin.2, rfl⟩
            · by_cases bB : e < b
              · have dP : decide ((s : Int) < (m : Int)) = true := decide_eq_true (by omega)
                have dQ : decide ((m : Int) < (e : Int)) = true := decide_eq_true (by omega)
                have dA : decide ((a : Int) < (s : Int)) = false := decide_eq_false (by omega)
                have dM : decide ((s : Int) < (mid : Int)) = true := decide_eq_true (by omega)
                have dN : decide ((mid : Int) < (e : Int)) = true := decide_eq_true (by omega)
                have dB : decide ((e : Int) < (b : Int)) = true := decide_eq_true (by omega)
                go_wp2_with (first
                    | (go_at_call 40; (with_reducible refine (hrq (by omega) (by omega)).mono ?_); rintro e1 w1 ⟨rfl, d1, q1, hr1, hp1, rfl⟩; have hH := HHV d1 hr1; have hz1 := hr1.1; have hx1 := ((permIn_refl d1 a mid)).1.trans hz1; have hx2 := sorted_keep hH.p3 (permIn_refl d1 a mid) (.inr (Nat.le_refl _)); have hx3 := sorted_keep hH.p4 (permIn_refl d1 a mid) (.inr (by omega : mid ≤ e)))
                    | (go_at_call 35; (with_reducible refine (hihr d1 q1 hx1 (by omega) (by omega) (by omega) hx2 hx3).mono ?_); rintro e1 w1 ⟨rfl, d3, q3, hp3, hs3, rfl⟩)
                    )
                all_goals go_end0
                all_goals have hfin := halves_done hH (by omega) (by omega) (by have := HN.out; omega) (permIn_refl d1 a mid) (halves_left hH (by omega) (by omega)) hp3 hs3
                all_goals exact ⟨rfl, d3, q3, permIn_trans _ _ _ _ _ (permIn_mono _ _ _ _ _ _ has heb (by have := HN.out; omega) hp1) hfin.1, hfin.2, rfl⟩
              · have dP : decide ((s : Int) < (m : Int)) = true := decide_eq_true (by omega)
                have dQ : decide ((m : Int) < (e : Int)) = true := decide_eq_true (by omega)
                have dA : decide ((a : Int) < (s : Int)) = false := decide_eq_false (by omega)
                have dM : decide ((s : Int) < (mid : Int)) = true := decide_eq_true (by omega)
                have dN : decide ((mid : Int) < (e : Int)) = true := decide_eq_true (by omega)
                have dB : decide ((e : Int) < (b : Int)) = false := decide_eq_false (by omega)
                go_wp2_with (first
                    | (go_at_call 40; (with_reducible refine (hrq (by omega) (by omega)).mono ?_); rintro e1 w1 ⟨rfl, d1, q1, hr1, hp1, rfl⟩; have hH := HHV d1 hr1; have hz1 := hr1.1)
                    )
                all_goals go_end0
                all_goals have hfin := halves_done hH (by omega) (by omega) (by have := HN.out; omega) (permIn_refl d1 a mid) (halves_left hH (by omega) (by omega)) (permIn_refl d1 mid b) (sorted_keep (halves_right hH (by omega) (by omega)) (permIn_refl d1 a mid) (.inr (Nat.le_refl _)))
                all_goals exact ⟨rfl, d1, q1, permIn_trans _ _ _ _ _ (permIn_mono _ _ _ _ _ _ has heb (by have := HN.out; omega) hp1) hfin.1, hfin.2, rfl⟩
          · by_cases bA : a < s
            · by_cases bB : e < b
              · have dP : decide ((s : Int) < (m : Int)) = true := decide_eq_true (by omega)
                have dQ : decide ((m : Int) < (e : Int)) = false := decide_eq_false (by omega)
                have dA : decide ((a : Int) < (s : Int)) = true := decide_eq_true (by omega)
                have dM : decide ((s : Int) < (mid : Int)) = false := decide_eq_false (by omega)
                have dN : decide ((mid : Int) < (e : Int)) = true := decide_eq_true (by omega)
                have dB : decide ((e : Int) < (b : Int)) = true := decide_eq_true (by omega)
                have hr1 : IsRot d d s m e := isRot_r (by omega)
                have hp1 : PermIn s e d d := permIn_refl _ _ _
                have hH := HHV d hr1
                have hz1 : d.size = d.size := rfl
                have hx1 := ((permIn_refl d a mid)).1.trans hz1
                have hx2 := sorted_keep hH.p3 (permIn_refl d a mid) (.inr (Nat.le_refl _))
                have hx3 := sorted_keep hH.p4 (permIn_refl d a mid) (.inr (by omega : mid ≤ e))
                go_wp2_with (first
                    | (go_at_call 35; (with_reducible refine (hihr d q hx1 (by omega) (by omega) (by omega) hx2 hx3).mono ?_); rintro e1 w1 ⟨rfl, d3, q3, hp3, hs3, rfl⟩)
                    )
                all_goals go_end0
                all_goals have hfin := halves_done hH (by omega) (by omega) (by have := HN.out; omega) (permIn_refl d a mid) (halves_left hH (by omega) (by omega)) hp3 hs3
                all_goals exact ⟨rfl, d3, q3, permIn_trans _ _ _ _ _ (permIn_mono _ _ _ _ _ _ has heb (by have := HN.out; omega) hp1) hfin.1, hfin.2, rfl⟩
              · have dP : decide ((s : Int) < (m : Int)) = true := decide_eq_true (by omega)
                have dQ : decide ((m : Int) < (e : Int)) = false := decide_eq_false (by omega)
                have dA : decide ((a : Int) < (s : Int)) = true := decide_eq_true (by omega)
                have dM : decide ((s : Int) < (mid : Int)) = false := decide_eq_false (by omega)
                have dN : decide ((mid : Int) < (e : Int)) = true := decide_eq_true (by omega)
                have dB : decide ((e : Int) < (b : Int)) = false := decide_eq_false (by omega)
                have hr1 : IsRot d d s m e := isRot_r (by omega)
                have hp1 : PermIn s e d d := permIn_refl _ _ _
                have hH := HHV d hr1
                have hz1 : d.size = d.size := rfl
                go_wp2_with fail
                all_goals go_end0
                all_goals have hfin := halves_done hH (by omega) (by omega) (by have := HN.out; omega) (permIn_refl d a mid) (halves_left hH (by omega) (by omega)) (permIn_refl d mid b) (sorted_keep (halves_right hH (by omega) (by omega)) (permIn_refl d a mid) (.inr (Nat.le_refl _)))
                all_goals exact ⟨rfl, d, q, permIn_trans _ _ _ _ _ (permIn_mono _ _ _ _ _ _ has heb (by have := HN.out; omega) hp1) hfin.1, hfin.2, rfl⟩
            · by_cases bB : e < b
              · have dP : decide ((s : Int) < (m : Int)) = true := decide_eq_true (by omega)
                have dQ : decide ((m : Int) < (e : Int)) = false := decide_eq_false (by omega)
                have dA : decide ((a : Int) < (s : Int)) = false := decide_eq_false (by omega)
                have dM : decide ((s : Int) < (mid : Int)) = false := decide_eq_false (by omega)
                have dN : decide ((mid : Int) < (e : Int)) = true := decide_eq_true (by omega)
                have dB : decide ((e : Int) < (b : Int)) = true := decide_eq_true (by omega)
                have hr1 : IsRot d d s m e := isRot_r (by omega)
                have hp1 : PermIn s e d d := permIn_refl _ _ _
                have hH := HHV d hr1
                have hz1 : d.size = d.size := rfl
                have hx1 := ((permIn_refl d a mid)).1.trans hz1
                have hx2 := sorted_keep hH.p3 (permIn_refl d a mid) (.inr (Nat.le_refl _))
                have hx3 := sorted_keep hH.p4 (permIn_refl d a mid) (.inr (by omega : mid ≤ e))
                go_wp2_with (first
                    | (go_at_call 35; (with_reducible refine (hihr d q hx1 (by omega) (by omega) (by omega) hx2 hx3).mono ?_); rintro e1 w1 ⟨rfl, d3, q3, hp3, hs3, rfl⟩)
                    )
                all_goals go_end0
                all_goals have hfin := halves_done hH (by omega) (by omega) (by have := HN.out; omega) (permIn_refl d a mid) (halves_left hH (by omega) (by omega)) hp3 hs3
                all_goals exact ⟨rfl, d3, q3, permIn_trans _ _ _ _ _ (permIn_mono _ _ _ _ _ _ has heb (by have := HN.out; omega) hp1) hfin.1, hfin.2, rfl⟩
              · have dP : decide ((s : Int) < (m : Int)) = true := decide_eq_true (by omega)
                have dQ : decide ((m : Int) < (e : Int)) = false := decide_eq_false (by omega)
                have dA : decide ((a : Int) < (s : Int)) = false := decide_eq_false (by omega)
                have dM : decide ((s : Int) < (mid : Int)) = false := decide_eq_false (by omega)
                have dN : decide ((mid : Int) < (e : Int)) = true := decide_eq_true (by omega)
                have dB : decide ((e : Int) < (b : Int)) = false := decide_eq_false (by omega)
                have hr1 : IsRot d d s m e := isRot_r (by omega)
                have hp1 : PermIn s e d d := permIn_refl _ _ _
                have hH := HHV d hr1
                have hz1 : d.size = d.size := rfl
                go_wp2_with fail
                all_goals go_end0
                all_goals have hfin := halves_done hH (by omega) (by omega) (by have := HN.out; omega) (permIn_refl d a mid) (halves_left hH (by omega) (by omega)) (permIn_refl d mid b) (sorted_keep (halves_right hH (by omega) (by omega)) (permIn_refl d a mid) (.inr (Nat.le_refl _)))
                all_goals exact ⟨rfl, d, q, permIn_trans _ _ _ _ _ (permIn_mono _ _ _ _ _ _ has heb (by have := HN.out; omega) hp1) hfin.1, hfin.2, rfl⟩
        · by_cases bA : a < s
          · by_cases bQ : m < e
            · have dP : decide ((s : Int) < (m : Int)) = false := decide_eq_false (by omega)
              have dQ : decide ((m : Int) < (e : Int)) = true := decide_eq_true (by omega)
              have dA : decide ((a : Int) < (s : Int)) = true := decide_eq_true (by omega)
              have dM : decide ((s : Int) < (mid : Int)) = true := decide_eq_true (by omega)
              have dN : decide ((mid : Int) < (e : Int)) = false := decide_eq_false (by omega)
              have hr1 : IsRot d d s m e := isRot_l (by omega)
              have hp1 : PermIn s e d d := permIn_refl _ _ _
              have hH := HHV d hr1
              have hz1 : d.size = d.size := rfl
              go_wp2_with (first
                  | (go_at_call 35; (with_reducible refine (hihl d q hz1 (by omega) (by omega) (by omega) hH.p1 hH.p2).mono ?_); rintro e1 w1 ⟨rfl, d2, q2, hp2, hs2, rfl⟩)
                  )
              all_goals go_end0
              all_goals have hfin := halves_done hH (by omega) (by omega) (by have := HN.out; omega) hp2 hs2 (permIn_refl d2 mid b) (sorted_keep (halves_right hH (by omega) (by omega)) hp2 (.inr (Nat.le_refl _)))
              all_goals exact ⟨rfl, d2, q2, permIn_trans _ _ _ _ _ (permIn_mono _ _ _ _ _ _ has heb (by have := HN.out; omega) hp1) hfin.1, hfin.2, rfl⟩
            · have dP : decide ((s : Int) < (m : Int)) = false := decide_eq_false (by omega)
              have dQ : decide ((m : Int) < (e : Int)) = false := decide_eq_false (by omega)
              have dA : decide ((a : Int) < (s : Int)) = true := decide_eq_true (by omega)
              have dM : decide ((s : Int) < (mid : Int)) = false := decide_eq_false (by omega)
              have dN : decide ((mid : Int) < (e : Int)) = false := decide_eq_false (by omega)
              have hr1 : IsRot d d s m e := isRot_l (by omega)
              have hp1 : PermIn s e d d := permIn_refl _ _ _
              have hH := HHV d hr1
              have hz1 : d.size = d.size := rfl
              go_wp2_with fail
              all_goals go_end0
              all_goals have hfin := halves_done hH (by omega) (by omega) (by have := HN.out; omega) (permIn_refl d a mid) (halves_left hH (by omega) (by omega)) (permIn_refl d mid b) (sorted_keep (halves_right hH (by omega) (by omega)) (permIn_refl d a mid) (.inr (Nat.le_refl _)))
              all_goals exact ⟨rfl, d, q, permIn_trans _ _ _ _ _ (permIn_mono _ _ _ _ _ _ has heb (by have := HN.out; omega) hp1) hfin.1, hfin.2, rfl⟩
          · by_cases bQ : m < e
            · have dP : decide ((s : Int) < (m : Int)) = false := decide_eq_false (by omega)
              have dQ : decide ((m : Int) < (e : Int)) = true := decide_eq_true (by omega)
              have dA : decide ((a : Int) < (s : Int)) = false := decide_eq_false (by omega)
              have dM : decide ((s : Int) < (mid : Int)) = true := decide_eq_true (by omega)
              have dN : decide ((mid : Int) < (e : Int)) = false := decide_eq_false (by omega)
              have hr1 : IsRot d d s m e := isRot_l (by omega)
              have hp1 : PermIn s e d d := permIn_refl _ _ _
              have hH := HHV d hr1
              have hz1 : d.size = d.size := rfl
              go_wp2_with fail
              all_goals go_end0
              all_goals have hfin := halves_done hH (by omega) (by omega) (by have := HN.out; omega) (permIn_refl d a mid) (halves_left hH (by omega) (by omega)) (permIn_refl d mid b) (sorted_keep (halves_right hH (by omega) (by omega)) (permIn_refl d a mid) (.inr (Nat.le_refl _)))
              all_goals exact ⟨rfl, d, q, permIn_trans _ _ _ _ _ (permIn_mono _ _ _ _ _ _ has heb (by have := HN.out; omega) hp1) hfin.1, hfin.2, rfl⟩
            · have dP : decide ((s : Int) < (m : Int)) = false := decide_eq_false (by omega)
              have dQ : decide ((m : Int) < (e : Int)) = false := decide_eq_false (by omega)
              have dA : decide ((a : Int) < (s : Int)) = false := decide_eq_false (by omega)
              have dM : decide ((s : Int) < (mid : Int)) = false := decide_eq_false (by omega)
              have dN : decide ((mid : Int) < (e : Int)) = false := decide_eq_false (by omega)
              have hr1 : IsRot d d s m e := isRot_l (by omega)
              have hp1 : PermIn s e d d := permIn_refl _ _ _
              have hH := HHV d hr1
              have hz1 : d.size = d.size := rfl
              go_wp2_with fail
              all_goals go_end0
              all_goals have hfin := halves_done hH (by omega) (by omega) (by have := HN.out; omega) (permIn_refl d a mid) (halves_left hH (by omega) (by omega)) (permIn_refl d mid b) (sorted_keep (halves_right hH (by omega) (by omega)) (permIn_refl d a mid) (.inr (Nat.le_refl _)))
              all_goals exact ⟨rfl, d, q, permIn_trans _ _ _ _ _ (permIn_mono _ _ _ _ _ _ has heb (by have := HN.out; omega) hp1) hfin.1, hfin.2, rfl⟩
theorem sym_k (g cap N : Nat) (hsz : N ≤ 200) : ∀ (L a m b : Nat) (d : Array UInt64) (w : World), b - a ≤ L → d.size = N → Holds encF w g 0 d → a < m → m < b → b ≤ N → SortedIn ltF a m d → SortedIn ltF m b d →
    Calls Try.prog 35 #[.slice (some ⟨g, 0, none⟩) N cap, .int .i64 a, .int .i64 m, .int .i64 b, .func (.func 18) #[] #[]] w (Merged a b g d w) := by
  intro L
  induction L with
  | zero => intro a m b d w hL _ _ h1 h2; omega
  | succ L ih =>
    intro a m b d w hL hN hH ham hmb hb hs1 hs2
    by_cases h1 : m = a + 1
    · subst h1
      exact sym_up g cap N a b d w hN hH hmb hb hsz hs2
    · by_cases h2 : b = m + 1
      · subst h2
        exact sym_down g cap N a m d w hN hH (by omega) hb hsz hs1
      · refine sym_main g cap N a m b d w hN hH (by omega) (by omega) hb hsz hs1 hs2 ?_
        intro a' m' b' dk q hs hlt q1 q2 q3 q4 q5
        refine (ih a' m' b' dk _ (by omega) (hs.trans hN) (fl_holds hH hs q) q1 q2 q3 q4 q5).mono ?_
        rintro e w' ⟨he, d', q', k1, k2, rfl⟩
        exact ⟨he, d', q + q', k1, k2, fl_put _ _ _ _ _ _ k1.1⟩
end Go.Proofs.Ytoneofdihknnoab
