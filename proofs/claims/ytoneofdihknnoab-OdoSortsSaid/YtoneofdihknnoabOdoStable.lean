/- The library's stable sort of readings, up to 200 of them; the package's Sort. -/
import Derived.Test.YtoneofdihknnoabOdoMerge
import Derived.Test.YtoneofdihknnoabOdoMiddle
set_option linter.unusedSimpArgs false
set_option linter.unusedVariables false
namespace Go.Proofs.Ytoneofdihknnoab
open Go.RowKit Go.Shelf Go.Sort Ieee

/-- Sorted in blocks of n, as far as p. -/
def BlocksTo (n p : Nat) (d : Array UInt64) : Prop := ∀ k, (k + 1) * n ≤ p → SortedIn ltF (k * n) ((k + 1) * n) d
/-- .. and the rest behind the last whole block is sorted too. -/
structure Blocked (n N : Nat) (d : Array UInt64) : Prop where
  whole : ∀ k, (k + 1) * n ≤ N → SortedIn ltF (k * n) ((k + 1) * n) d
  rest : ∀ k, k * n ≤ N → N < (k + 1) * n → SortedIn ltF (k * n) N d
/-- The same in one word: from k * n on, n of them or as many as there are. -/
theorem Blocked.at_ {n N : Nat} {d : Array UInt64} (h : Blocked n N d) (k : Nat) (hk : k * n ≤ N) : SortedIn ltF (k * n) (min ((k + 1) * n) N) d := by
  by_cases h1 : (k + 1) * n ≤ N
  · rw [Nat.min_eq_left h1]; exact h.whole k h1
  · rw [Nat.min_eq_right (by omega)]; exact h.rest k hk (by omega)
theorem blocked_of {n N : Nat} {d : Array UInt64} (h : ∀ k, k * n ≤ N → SortedIn ltF (k * n) (min ((k + 1) * n) N) d) : Blocked n N d :=
  ⟨fun k hk => by
    have := h k (by rw [Nat.add_mul] at hk; omega)
    rwa [Nat.min_eq_left hk] at this, fun k h1 h2 => by
    have := h k h1
    rwa [Nat.min_eq_right (by omega)] at this⟩
theorem sorted_small {a b : Nat} {d : Array UInt64} (h : b ≤ a + 1) : SortedIn ltF a b d := fun i j h1 h2 h3 => by omega
/-- The first q blocks of 2n are sorted, behind them blocks of n. -/
def Half (n N q : Nat) (d : Array UInt64) : Prop := (∀ k, k < q → SortedIn ltF (k * (2 * n)) ((k + 1) * (2 * n)) d) ∧ ∀ k, q * 2 ≤ k → k * n ≤ N → SortedIn ltF (k * n) (min ((k + 1) * n) N) d
theorem half_zero {n N : Nat} {d : Array UInt64} (h : Blocked n N d) : Half n N 0 d := ⟨fun k hk => absurd hk (Nat.not_lt_zero _), fun k _ hk => h.at_ k hk⟩
theorem half_step {n N q : Nat} {d d' : Array UInt64} (h : Half n N q d) (hq : (q + 1) * (2 * n) ≤ N) (hp : PermIn (q * (2 * n)) ((q + 1) * (2 * n)) d d') (hs : SortedIn ltF (q * (2 * n)) ((q + 1) * (2 * n)) d') : Half n N (q + 1) d' := by
  refine ⟨fun k hk => ?_, fun k hk hkN => ?_⟩
  · by_cases h1 : k = q
    · subst h1; exact hs
    · refine sorted_keep (h.1 k (by omega)) hp (.inl ?_)
      exact Nat.mul_le_mul_right _ (by omega)
  · refine sorted_keep (h.2 k (by omega) hkN) hp (.inr ?_)
    rw [show (q + 1) * (2 * n) = ((q + 1) * 2) * n by rw [Nat.mul_assoc]]
    exact Nat.mul_le_mul_right _ (by omega)
/-- At the end: what is left behind the whole ones is at most one block of n, or was merged. -/
theorem half_done {n N q : Nat} {d : Array UInt64} (h : ∀ k, k < q → SortedIn ltF (k * (2 * n)) ((k + 1) * (2 * n)) d) (h1 : q * (2 * n) ≤ N) (h2 : N < (q + 1) * (2 * n)) (hl : SortedIn ltF (q * (2 * n)) N d) : Blocked (2 * n) N d := by
  refine ⟨fun k hk => ?_, fun k h3 h4 => ?_⟩
  · refine h k ?_
    rcases Nat.lt_or_ge k q with h | h
    · exact h
    · have := Nat.mul_le_mul_right (2 * n) (show q + 1 ≤ k + 1 by omega)
      omega
  · have : k = q := by
      rcases Nat.lt_trichotomy k q with h | h | h
      · have := Nat.mul_le_mul_right (2 * n) (show k + 1 ≤ q by omega); omega
      · exact h
      · have := Nat.mul_le_mul_right (2 * n) (show q + 1 ≤ k by omega); omega
    subst this
    exact hl
theorem blocked_all {n N : Nat} {d : Array UInt64} (h : Blocked n N d) (hn : N ≤ n) : SortedIn ltF 0 N d := by
  have := h.at_ 0 (by omega)
  rwa [Nat.zero_mul, Nat.zero_add, Nat.one_mul, Nat.min_eq_right hn] at this
theorem insert_k (g cap N a b : Nat) (d : Array UInt64) (w : World) (hN : d.size = N) (hH : Holds encF w g 0 d) (hab : a ≤ b) (hb : b ≤ N) (hsz : N ≤ 200) :
    Calls Try.prog 34 #[.slice (some ⟨g, 0, none⟩) N cap, .int .i64 a, .int .i64 b, .func (.func 18) #[] #[]] w (Merged a b g d w) := by
  subst hN
  refine (ins_k g cap a b d w hH hab hb (by omega)).mono ?_
  rintro e w' ⟨he, n, rfl⟩
  have h := insertionSort_holds (lt := ltF) ltF_swo d a b hab hb
  exact ⟨he, _, n, h.1, h.2, rfl⟩
set_option maxHeartbeats 8000000 in
set_option maxRecDepth 100000 in
theorem stable_k (g cap N : Nat) (d : Array UInt64) (w : World) (hN : d.size = N) (hH : Holds encF w g 0 d) (hsz : N ≤ 200) :
    Calls Try.prog 26 #[.slice (some ⟨g, 0, none⟩) N cap, .int .i64 N, .func (.func 18) #[] #[]] w (Merged 0 N g d w) := by
  have HST := Lib.hid (putRow_self encF w g 0 d hH).symm
  have HH := Lib.hid hH
  have HN := Lib.hid hN
  have hins : ∀ (a b : Nat) (dk : Array UInt64) (q : Nat), dk.size = d.size → a ≤ b → b ≤ N → Calls Try.prog 34 #[.slice (some ⟨g, 0, none⟩) N cap, .int .i64 a, .int .i64 b, .func (.func 18) #[] #[]] ((putRow encF w g 0 dk).drewN q) fun e w' => e = .returned (.tuple #[]) ∧ ∃ d' q', PermIn a b dk d' ∧ SortedIn ltF a b d' ∧ w' = (putRow encF w g 0 d').drewN q' := fun a b dk q hs h1 h2 => (insert_k g cap N a b dk _ (hs.trans hN) (fl_holds hH hs q) h1 h2 hsz).mono fun e w' ⟨he, d', q', k1, k2, hw⟩ => ⟨he, d', q + q', k1, k2, by rw [hw, fl_put _ _ _ _ _ _ k1.1]⟩
  have hsym : ∀ (a m b : Nat) (dk : Array UInt64) (q : Nat), dk.size = d.size → a < m → m < b → b ≤ N → SortedIn ltF a m dk → SortedIn ltF m b dk → Calls Try.prog 35 #[.slice (some ⟨g, 0, none⟩) N cap, .int .i64 a, .int .i64 m, .int .i64 b, .func (.func 18) #[] #[]] ((putRow encF w g 0 dk).drewN q) fun e w' => e = .returned (.tuple #[]) ∧ ∃ d' q', PermIn a b dk d' ∧ SortedIn ltF a b d' ∧ w' = (putRow encF w g 0 d').drewN q' := fun a m b dk q hs h1 h2 h3 h4 h5 => (sym_k g cap N hsz _ a m b dk _ (Nat.le_refl _) (hs.trans hN) (fl_holds hH hs q) h1 h2 h3 h4 h5).mono fun e w' ⟨he, d', q', k1, k2, hw⟩ => ⟨he, d', q + q', k1, k2, by rw [hw, fl_put _ _ _ _ _ _ k1.1]⟩
  clear hH hN
  go_enter Try.func26, Try.ntmps26
  go_wp2_with fail
  go_loopw [7, 8] (fun va vb wr => ∃ (k a b q : Nat) (dk : Array UInt64), va = .int .i64 a ∧ vb = .int .i64 b ∧ a = k * 20 ∧ b = a + 20 ∧ a ≤ N ∧ PermIn 0 N d dk ∧ BlocksTo 20 a dk ∧ wr = (putRow encF w g 0 dk).drewN q) (fun va _ _ => N - (intOf va).toNat)
  case atStart => exact ⟨0, 0, 20, 0, d, rfl, rfl, rfl, rfl, Nat.zero_le _, permIn_refl _ _ _, fun k hk => by omega, HST.out⟩
  case round =>
    obtain ⟨k, a, b, q, dk, rfl, rfl, hak, hba, haN, hpm, hbl, rfl⟩ := hrel
    have HPM := Lib.hid hpm
    have HBL := Lib.hid hbl
    have HSK := Lib.hid hpm.1
    have HAK := Lib.hid hak
    have hba1 := Nat.le_of_eq hba
    have hba2 := Nat.le_of_eq hba.symm
    clear hpm hbl hak hba
    by_cases hle : b ≤ N
    · have hic := hins a b dk q HSK.out (by omega) hle
      clear hins hsym
      go_wp2_with (go_at_call 34; (with_reducible refine hic.mono ?_); rintro e w1 ⟨rfl, d', q', k1, k2, rfl⟩)
      go_roundw
      case rel =>
        refine ⟨k + 1, b, b + 20, q', d', rfl, by go_num, by have := HAK.out; omega, rfl, hle, permIn_trans _ _ _ _ _ HPM.out (permIn_mono _ _ _ _ _ _ (Nat.zero_le _) hle (by have := HN.out; have := HSK.out; omega) k1), fun k' hk' => ?_, rfl⟩
        by_cases hlt : (k' + 1) * 20 ≤ a
        · exact sorted_keep (HBL.out k' hlt) k1 (.inl hlt)
        · have := HAK.out
          have e1 : k' * 20 = a := by omega
          have e2 : (k' + 1) * 20 = b := by omega
          rw [e1, e2]
          exact k2
      case measure => simp [intOf]; omega
    · have hic := hins a N dk q HSK.out haN (Nat.le_refl _)
      clear hins
      go_wp2_with (go_at_call 34; (with_reducible refine hic.mono ?_); rintro e w1 ⟨rfl, d1, q1, k1, k2, rfl⟩)
      have HP1 := Lib.hid (permIn_trans _ _ _ _ _ HPM.out (permIn_mono _ _ _ _ _ _ (Nat.zero_le _) (Nat.le_refl _) (by have := HN.out; have := HSK.out; omega) k1))
      have HB1 : Blocked 20 N d1 := blocked_of fun k' hk' => by
        have := HAK.out
        by_cases hlt : (k' + 1) * 20 ≤ a
        · rw [Nat.min_eq_left (by omega)]
          exact sorted_keep (HBL.out k' hlt) k1 (.inl hlt)
        · have e1 : k' * 20 = a := by omega
          rw [e1, Nat.min_eq_right (by omega)]
          exact k2
      have HB := Lib.hid HB1
      clear k1 k2 hic HB1 HPM HBL HSK HAK hle haN hba1 hba2
      go_loopw [6] (fun v6 wr => ∃ (bs q : Nat) (dk : Array UInt64), v6 = .int .i64 bs ∧ 20 ≤ bs ∧ bs ≤ 800 ∧ PermIn 0 N d dk ∧ Blocked bs N dk ∧ wr = (putRow encF w g 0 dk).drewN q) (fun v6 _ => 1000 - (intOf v6).toNat)
      case atStart => exact ⟨20, q1, d1, rfl, Nat.le_refl _, by omega, HP1.out, HB.out, rfl⟩
      case round =>
        obtain ⟨bs, q, dk, rfl, hb20, hb8, hpm, hbk, rfl⟩ := hrel
        have HPM := Lib.hid hpm
        have HBK := Lib.hid hbk
        clear hpm hbk HP1 HB
        by_cases hlt : bs < N
        · go_wp2_with fail
          obtain ⟨b2, hb2⟩ : ∃ x, x = 2 * bs := ⟨_, rfl⟩
          have hb21 := Nat.le_of_eq hb2
          have hb22 := Nat.le_of_eq hb2.symm
          have HB2 := Lib.hid hb2
          clear hb2
          go_loopw [7, 8] (fun va vb wr => ∃ (k a b q : Nat) (dk : Array UInt64), va = .int .i64 a ∧ vb = .int .i64 b ∧ a = k * (2 * bs) ∧ b = a + b2 ∧ a ≤ N ∧ PermIn 0 N d dk ∧ Half bs N k dk ∧ wr = (putRow encF w g 0 dk).drewN q) (fun va _ _ => N - (intOf va).toNat)
          case atStart => exact ⟨0, 0, b2, q, dk, rfl, by congr 1; omega, by omega, by omega, Nat.zero_le _, HPM.out, half_zero HBK.out, rfl⟩
          case round =>
            obtain ⟨k, a, b, q, dk, rfl, rfl, hak, hba, haN, hpm, hhf, rfl⟩ := hrel
            have HPM2 := Lib.hid hpm
            have HF := Lib.hid hhf
            have HSK := Lib.hid hpm.1
            have HAK := Lib.hid hak
            have hba1 := Nat.le_of_eq hba
            have hba2 := Nat.le_of_eq hba.symm
            have f1 : k * 2 * bs = a := by rw [Nat.mul_assoc]; exact hak.symm
            have f2 : (k * 2 + 1) * bs = a + bs := by rw [Nat.add_mul, Nat.one_mul, f1]
            have f3 : (k * 2 + 1 + 1) * bs = a + bs + bs := by rw [Nat.add_mul, Nat.one_mul, f2]
            have f4 : (k + 1) * (2 * bs) = b := by rw [Nat.add_mul, Nat.one_mul, ← hak]; omega
            have F1 := Lib.hid f1
            have F2 := Lib.hid f2
            have F3 := Lib.hid f3
            have F4 := Lib.hid f4
            obtain ⟨m, hm⟩ : ∃ m, m = a + bs := ⟨_, rfl⟩
            have em : (a : Int) + (bs : Int) = (m : Int) := by omega
            have hm1 := Nat.le_of_eq hm
            have hm2 := Nat.le_of_eq hm.symm
            clear hpm hhf hak hba f1 f2 f3 f4 hm
            by_cases hle : b ≤ N
            · have hs1 : SortedIn ltF a m dk := by
                have h := HF.out.2 (k * 2) (by omega) (by rw [F1.out]; exact haN)
                rwa [F1.out, F2.out, Nat.min_eq_left (by omega), show a + bs = m by omega] at h
              have hs2 : SortedIn ltF m b dk := by
                have h := HF.out.2 (k * 2 + 1) (by omega) (by rw [F2.out]; omega)
                rwa [F2.out, F3.out, Nat.min_eq_left (by omega), show a + bs + bs = b by omega, show a + bs = m by omega] at h
              have hsc := hsym a m b dk q HSK.out (by omega) (by omega) hle hs1 hs2
              clear hsym hs1 hs2
              go_wp2_with (go_at_call 35; (with_reducible refine hsc.mono ?_); rintro e w1 ⟨rfl, d', q', k1, k2, rfl⟩)
              go_roundw
              case rel =>
                exact ⟨k + 1, b, b + b2, q', d', rfl, by first | go_num | (congr 1; omega), F4.out.symm, rfl, hle, permIn_trans _ _ _ _ _ HPM2.out (permIn_mono _ _ _ _ _ _ (Nat.zero_le _) hle (by have := HN.out; have := HSK.out; omega) k1), half_step HF.out (by rw [F4.out]; exact hle) (by rw [F4.out, ← HAK.out]; exact k1) (by rw [F4.out, ← HAK.out]; exact k2), rfl⟩
              case measure => simp [intOf]; omega
            · by_cases hmN : m < N
              · have hs1 : SortedIn ltF a m dk := by
                  have h := HF.out.2 (k * 2) (by omega) (by rw [F1.out]; exact haN)
                  rwa [F1.out, F2.out, Nat.min_eq_left (by omega), show a + bs = m by omega] at h
                have hs2 : SortedIn ltF m N dk := by
                  have h := HF.out.2 (k * 2 + 1) (by omega) (by rw [F2.out]; omega)
                  rwa [F2.out, F3.out, Nat.min_eq_right (by omega), show a + bs = m by omega] at h
                have hsc := hsym a m N dk q HSK.out (by omega) hmN (Nat.le_refl _) hs1 hs2
                clear hsym hs1 hs2
                go_wp2_with (go_at_call 35; (with_reducible refine hsc.mono ?_); rintro e w1 ⟨rfl, d', q', k1, k2, rfl⟩)
                go_roundw
                case rel =>
                  refine ⟨b2, q', d', by first | go_num | (congr 1; omega), by omega, by omega, permIn_trans _ _ _ _ _ HPM2.out (permIn_mono _ _ _ _ _ _ (Nat.zero_le _) (Nat.le_refl _) (by have := HN.out; have := HSK.out; omega) k1), ?_, rfl⟩
                  rw [HB2.out]
                  refine half_done (fun k' hk' => ?_) (by rw [← HAK.out]; exact haN) (by rw [F4.out]; omega) (by rw [← HAK.out]; exact k2)
                  refine sorted_keep (HF.out.1 k' hk') k1 (.inl ?_)
                  rw [HAK.out]
                  exact Nat.mul_le_mul_right _ (by omega)
                case measure => simp [intOf]; omega
              · go_wp2_with fail
                go_roundw
                case rel =>
                  refine ⟨b2, q, dk, by first | go_num | (congr 1; omega), by omega, by omega, HPM2.out, ?_, rfl⟩
                  rw [HB2.out]
                  refine half_done HF.out.1 (by rw [← HAK.out]; exact haN) (by rw [F4.out]; omega) ?_
                  have h := HF.out.2 (k * 2) (by omega) (by rw [F1.out]; exact haN)
                  rwa [F1.out, F2.out, Nat.min_eq_right (by omega), HAK.out] at h
                case measure => simp [intOf]; omega
        · go_wp2_with fail
          go_end0
          exact ⟨rfl, dk, q, HPM.out, blocked_all HBK.out (by omega), rfl⟩
theorem sortstable_k (g cap N : Nat) (d : Array UInt64) (w : World) (hN : d.size = N) (hH : Holds encF w g 0 d) (hsz : N ≤ 200) :
    Calls Try.prog 17 #[.slice (some ⟨g, 0, none⟩) N cap, .func (.func 18) #[] #[]] w (Merged 0 N g d w) := by
  have hst : ∀ W, W = w → Calls Try.prog 26 #[.slice (some ⟨g, 0, none⟩) N cap, .int .i64 N, .func (.func 18) #[] #[]] W (Merged 0 N g d w) := by
    rintro W rfl
    exact stable_k g cap N d W hN hH hsz
  clear hH hN
  go_enter Try.func17, Try.ntmps17
  go_wp2_with (go_at_call 26; (with_reducible refine (hst _ rfl).mono ?_); rintro e w1 ⟨rfl, d', q, h1, h2, rfl⟩)
  go_end0
  exact ⟨rfl, d', q, h1, h2, rfl⟩
/-- What the package's Sort tells of these readings, wherever they lie: some sorted row of the same. -/
theorem odsort_k (b off c : Nat) (d : Array UInt64) (w : World) (h0 : 0 < d.size) (h1 : d.size ≤ 200) (hc : ∀ j, j < d.size → w.cell? ⟨b, off + j, none⟩ = some (encF d[j]!)) :
    Calls Try.prog 6 #[.slice (some ⟨b, off, none⟩) d.size c] w fun e w' => ∃ s v, e = .returned v ∧ PermIn 0 d.size d s ∧ SortedIn ltF 0 d.size s ∧ FRow w.heap.size s v w' ∧ Below w.heap.size w w' := by
  have hcl := fun W (h : W = w) => clone_k b off c d w h0 (by omega) hc
  obtain ⟨n, hn⟩ : ∃ n, d.size = n := ⟨_, rfl⟩
  have hn' := Lib.hid hn
  rw [hn]
  rw [hn] at hcl
  clear hc
  go_enter Try.func6, Try.ntmps6
  go_wp2_with (first
    | (go_at_call 16; (with_reducible refine (hcl w rfl).mono ?_); rintro e w1 ⟨v, rfl, ⟨g, cap, rfl, hg, hH, hcap, hlt, hm⟩, hb1⟩; have hst := sortstable_k g cap n d w1 hn'.out hH (by omega); clear hn; rw [hn'.out])
    | (go_at_call 17; (with_reducible refine hst.mono ?_); rintro e w2 ⟨rfl, s, q, hp, hs, rfl⟩))
  go_ret
  have hz := hp.1
  refine ⟨s, .slice (some ⟨g, 0, none⟩) n cap, rfl, hp, hs, ⟨g, cap, by rw [hz, hn'.out], hg, holds_putRow encF w1 g 0 d s hH hz, by rw [hz]; exact hcap, ?_, hm⟩, below_aheadN (below_putRow hb1 encF g 0 _ hg) q⟩
  show g < (putRow encF w1 g 0 _).heap.size
  rw [size_putRow]; exact hlt
end Go.Proofs.Ytoneofdihknnoab
