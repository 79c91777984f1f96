/- The document's May of links. -/
import Derived.Test.YtiloammjejggjaaLinkMay
import Derived.Deep.QuietTactic
import Derived.BigQuiet
import Derived.IntWalk
set_option linter.unusedSimpArgs false
set_option linter.unusedVariables false
namespace Go.Proofs.Ytiloammjejggjaa
open Go.RowKit

set_option maxRecDepth 100000 in
set_option maxHeartbeats 4000000 in
theorem rlmay_k (l : Lk) (A : Option Addr) (n c : Nat) (xs : List (Wt × Value)) (w : World) (hx : xs.map (·.1) = l.waits) (hn : l.waits.length = n) (hW : WaitsAt w A xs) (hc : n ≤ 9223372036854775807) :
    Calls Try.prog 23 #[.agg #[.int .i64 l.period, .int .i64 l.most, .int .i64 l.quiet, .int .i64 l.heard, .slice A n c]] w fun e w' => e = .returned (.bool (mayL l)) ∧ Below w.heap.size w w' := by
  have hO : Own w _ [_] := (Own.nil w).new0 25 #[.int .i64 l.period, .int .i64 l.most, .int .i64 l.quiet, .int .i64 l.heard, .slice A n c]
  have ht0 := fun W => rtime11_k l.heard W
  have hcl := hO.b0.cell
  have HH := @headOk_iff l
  have HM : mayL l = (headOk l && wtsOk l.most (-1) l.waits) := rfl
  rw [HM]
  clear HM
  obtain ⟨ws, hws⟩ : ∃ ws, ws = l.waits := ⟨_, rfl⟩
  rw [← hws] at hx hn HH ⊢
  clear hws
  rw [hn] at HH
  obtain ⟨hd0, hhd⟩ : ∃ b, b = headOk l := ⟨_, rfl⟩
  rw [← hhd] at HH ⊢
  clear hhd
  generalize l.period = x1 at *
  generalize l.most = x2 at *
  generalize l.quiet = x3 at *
  generalize l.heard = x4 at *
  generalize isTime x4 = iH at *
  have HN := Lib.hid hn
  have HX := Lib.hid hx
  clear hn hx
  cases hd0 with
  | false =>
    have HJ := Lib.hid HH
    clear HH
    simp only [Bool.false_and]
    cases iH
    all_goals
      go_enter Try.func23, Try.ntmps23
      go_wp2_with (go_at_call 34; (with_reducible refine (ht0 _).mono ?_); rintro e w1 ⟨rfl, hb1⟩; replace hO := hO.grow hb1; have hcl1 := hO.b0.cell)
      all_goals first
        | (go_ret; exact ⟨rfl, hO.below⟩)
        | (exfalso; exact absurd (HJ.out.2 ⟨(by omega), (by omega), (by omega), (by omega), (by omega), (by omega), (by simp), (by omega)⟩) (by simp))
  | true =>
    obtain ⟨h1, h2, h3, h4, h5, h6, rfl, h8⟩ := HH.1 rfl
    clear HH
    simp only [Bool.true_and]
    have e1 : decide (x1 < 1) = false := by simp; omega
    have e2 : decide (1048576 < x1) = false := by simp; omega
    have e3 : decide (x3 < 1) = false := by simp; omega
    have e4 : decide (1048576 < x3) = false := by simp; omega
    have e5 : decide (x2 < 0) = false := by simp; omega
    have e6 : decide (20 < x2) = false := by simp; omega
    have e7 : decide (8 < (n : Int)) = false := by simp; omega
    go_enter Try.func23, Try.ntmps23
    go_wp2_with (go_at_call 34; (with_reducible refine (ht0 _).mono ?_); rintro e w1 ⟨rfl, hb1⟩; replace hO := hO.grow hb1; have hcl1 := hO.b0.cell)
    clear hcl ht0 e1 e2 e3 e4 e5 e6 e7
    replace hW := hW.below hO.below
    go_loopw [4] (fun i wr => ∃ k : Nat, k ≤ n ∧ i = .int .i64 k ∧ wtsOk x2 (-1) ws = wtsOk x2 (lastT ws k) (ws.drop k) ∧ Own w wr [(w.heap.size, 25, #[.int .i64 x1, .int .i64 x2, .int .i64 x3, .int .i64 x4, .slice A n c])] ∧ WaitsAt wr A xs) (fun i _ => n - (intOf i).toNat)
    case atStart => exact ⟨0, Nat.zero_le _, rfl, rfl, hO, hW⟩
    case round =>
      obtain ⟨k, hk, rfl, hd, hO, hW⟩ := hrel
      have hcl := hO.b0.cell
      have HD := Lib.hid hd
      clear hd hcl1
      by_cases hlt : k < n
      · obtain ⟨x, Ab, cb, b, off, hwk, hxk, rfl, hb, hc0, hc1, hc2, hc3, hB⟩ := hW.get (k := k) HX.out (by have h1 := HN.out; omega)
        have hBl := hB.len_le
        have hsz := fun W => rlsized_k Ab x.body.length cb W (by omega)
        have ht := fun W => rtime11_k x.t W
        have HD2 := Lib.hid (wtsOk_drop (most := x2) hwk)
        have HL := Lib.hid (lastT_succ hwk)
        have HI := @wtOk_iff x2 (lastT ws k) x
        have hsi : (decide (1 ≤ x.body.length) && decide (x.body.length ≤ 1023)) = isSized x.body := rfl
        simp only [hsi] at hsz
        have hprev : ∀ j, k = j + 1 → wr.cell? ⟨b, off + j * 4, none⟩ = some (.int .i64 (lastT ws k)) := by
          rintro j rfl
          obtain ⟨y, _, _, b', off', hwy, _, e, _, hy, _⟩ := hW.get (k := j) HX.out (by have h1 := HN.out; omega)
          injection e with e
          injection e with e1 e2
          subst e1
          subst e2
          rw [lastT_succ hwy]
          exact hy
        have hlast0 : k = 0 → lastT ws k = -1 := by rintro rfl; rfl
        clear hwk hsi
        generalize hla : lastT ws k = la at *
        replace hla := Lib.hid hla
        generalize x.body.length = nb at *
        obtain ⟨iT, hiT⟩ : ∃ b, b = isTime x.t := ⟨_, rfl⟩
        obtain ⟨iS, hiS⟩ : ∃ b, b = isSized x.body := ⟨_, rfl⟩
        have hT0 : iT = true → 0 ≤ x.t := by rw [hiT]; exact fun h => (isTime_iff.1 h).1
        rw [← hiT] at ht HI
        rw [← hiS] at hsz HI
        clear hiT hiS
        obtain ⟨xt, hxt⟩ : ∃ b, b = x.t := ⟨_, rfl⟩
        obtain ⟨xd, hxd⟩ : ∃ b, b = x.due := ⟨_, rfl⟩
        obtain ⟨xr, hxr⟩ : ∃ b, b = x.tries := ⟨_, rfl⟩
        simp only [← hxt, ← hxd, ← hxr] at hc0 hc1 hc2 ht HI hT0
        have HT := Lib.hid hxt
        clear hxt hxd hxr
        have lvl : (iT = false) ∨ (iT = true ∧ iS = false) ∨ (iT = true ∧ iS = true ∧ decide (xd < 0) = true) ∨ (iT = true ∧ iS = true ∧ decide (xd < 0) = false ∧ decide (8589934592 < xd) = true) ∨ (iT = true ∧ iS = true ∧ decide (xd < 0) = false ∧ decide (8589934592 < xd) = false ∧ decide (xr < 0) = true) ∨ (iT = true ∧ iS = true ∧ decide (xd < 0) = false ∧ decide (8589934592 < xd) = false ∧ decide (xr < 0) = false ∧ decide (x2 < xr) = true) ∨ (iT = true ∧ iS = true ∧ decide (xd < 0) = false ∧ decide (8589934592 < xd) = false ∧ decide (xr < 0) = false ∧ decide (x2 < xr) = false ∧ decide (xt ≤ la) = true) ∨ (iT = true ∧ iS = true ∧ decide (xd < 0) = false ∧ decide (8589934592 < xd) = false ∧ decide (xr < 0) = false ∧ decide (x2 < xr) = false ∧ decide (xt ≤ la) = false) := by
          cases iT <;> cases iS <;> simp <;> omega
        generalize hokd : wtOk x2 la x = ok at *
        have HK := Lib.hid hokd
        clear hokd
        have hTT : iT = true → k = 0 → decide (xt ≤ la) = false := fun h1 h2 => by
          have := hT0 h1
          have := hlast0 h2
          simp; omega
        have HTT := Lib.hid hTT
        clear hT0 hlast0 hTT
        rcases lvl with rfl | ⟨rfl, rfl⟩ | ⟨rfl, rfl, g2⟩ | ⟨rfl, rfl, g2, g3⟩ | ⟨rfl, rfl, g2, g3, g4⟩ | ⟨rfl, rfl, g2, g3, g4, g5⟩ | ⟨rfl, rfl, g2, g3, g4, g5, g6⟩ | ⟨rfl, rfl, g2, g3, g4, g5, g6⟩
        · have HOK : ok = false := by
            rw [Bool.eq_false_iff]
            intro h
            obtain ⟨q1, q2, q3, q4, q5, q6, q7⟩ := HI.1 h
            cases q1
          have HOK' := Lib.hid HOK
          clear HOK HI hprev
          go_wp2_with (first
          | (go_at_call 34; (with_reducible refine (ht _).mono ?_); rintro e w1 ⟨rfl, hb1⟩; replace hO := (Own.new1 hO 35 _).grow hb1; have hcl1 := hO.b0.cell; have hcw1 := hO.b1.cell; obtain ⟨hkc, _⟩ := bcell ((below_of_alloc hb1 : Below _ wr w1)))
          | (go_at_call 35; (with_reducible refine (hsz _).mono ?_); rintro e w2 ⟨rfl, hb2⟩; replace hO := hO.grow hb2; have hcl2 := hO.b0.cell; have hcw2 := hO.b1.cell; have hkc2 := (bcell hb2).1))
          go_quiet (fail)
          go_wp2_with fail
          go_ret
          exact ⟨ret_bool (by rw [HD.out, HD2.out, HOK'.out]; rfl), below_drewN hO.below _⟩
        · have HOK : ok = false := by
            rw [Bool.eq_false_iff]
            intro h
            obtain ⟨q1, q2, q3, q4, q5, q6, q7⟩ := HI.1 h
            cases q7
          have HOK' := Lib.hid HOK
          clear HOK HI hprev
          go_wp2_with (first
          | (go_at_call 34; (with_reducible refine (ht _).mono ?_); rintro e w1 ⟨rfl, hb1⟩; replace hO := (Own.new1 hO 35 _).grow hb1; have hcl1 := hO.b0.cell; have hcw1 := hO.b1.cell; obtain ⟨hkc, _⟩ := bcell ((below_of_alloc hb1 : Below _ wr w1)))
          | (go_at_call 35; (with_reducible refine (hsz _).mono ?_); rintro e w2 ⟨rfl, hb2⟩; replace hO := hO.grow hb2; have hcl2 := hO.b0.cell; have hcw2 := hO.b1.cell; have hkc2 := (bcell hb2).1))
          go_quiet (fail)
          go_wp2_with fail
          go_ret
          exact ⟨ret_bool (by rw [HD.out, HD2.out, HOK'.out]; rfl), below_drewN hO.below _⟩
        · have HOK : ok = false := by
            rw [Bool.eq_false_iff]
            intro h
            obtain ⟨q1, q2, q3, q4, q5, q6, q7⟩ := HI.1 h
            simp at g2; omega
          have HOK' := Lib.hid HOK
          clear HOK HI hprev
          go_wp2_with (first
          | (go_at_call 34; (with_reducible refine (ht _).mono ?_); rintro e w1 ⟨rfl, hb1⟩; replace hO := (Own.new1 hO 35 _).grow hb1; have hcl1 := hO.b0.cell; have hcw1 := hO.b1.cell; obtain ⟨hkc, _⟩ := bcell ((below_of_alloc hb1 : Below _ wr w1)))
          | (go_at_call 35; (with_reducible refine (hsz _).mono ?_); rintro e w2 ⟨rfl, hb2⟩; replace hO := hO.grow hb2; have hcl2 := hO.b0.cell; have hcw2 := hO.b1.cell; have hkc2 := (bcell hb2).1))
          go_quiet (fail)
          go_wp2_with fail
          go_ret
          exact ⟨ret_bool (by rw [HD.out, HD2.out, HOK'.out]; rfl), below_drewN hO.below _⟩
        · have HOK : ok = false := by
            rw [Bool.eq_false_iff]
            intro h
            obtain ⟨q1, q2, q3, q4, q5, q6, q7⟩ := HI.1 h
            simp at g3; omega
          have HOK' := Lib.hid HOK
          clear HOK HI hprev
          go_wp2_with (first
          | (go_at_call 34; (with_reducible refine (ht _).mono ?_); rintro e w1 ⟨rfl, hb1⟩; replace hO := (Own.new1 hO 35 _).grow hb1; have hcl1 := hO.b0.cell; have hcw1 := hO.b1.cell; obtain ⟨hkc, _⟩ := bcell ((below_of_alloc hb1 : Below _ wr w1)))
          | (go_at_call 35; (with_reducible refine (hsz _).mono ?_); rintro e w2 ⟨rfl, hb2⟩; replace hO := hO.grow hb2; have hcl2 := hO.b0.cell; have hcw2 := hO.b1.cell; have hkc2 := (bcell hb2).1))
          go_quiet (fail)
          go_wp2_with fail
          go_ret
          exact ⟨ret_bool (by rw [HD.out, HD2.out, HOK'.out]; rfl), below_drewN hO.below _⟩
        · have HOK : ok = false := by
            rw [Bool.eq_false_iff]
            intro h
            obtain ⟨q1, q2, q3, q4, q5, q6, q7⟩ := HI.1 h
            simp at g4; omega
          have HOK' := Lib.hid HOK
          clear HOK HI hprev
          go_wp2_with (first
          | (go_at_call 34; (with_reducible refine (ht _).mono ?_); rintro e w1 ⟨rfl, hb1⟩; replace hO := (Own.new1 hO 35 _).grow hb1; have hcl1 := hO.b0.cell; have hcw1 := hO.b1.cell; obtain ⟨hkc, _⟩ := bcell ((below_of_alloc hb1 : Below _ wr w1)))
          | (go_at_call 35; (with_reducible refine (hsz _).mono ?_); rintro e w2 ⟨rfl, hb2⟩; replace hO := hO.grow hb2; have hcl2 := hO.b0.cell; have hcw2 := hO.b1.cell; have hkc2 := (bcell hb2).1))
          go_quiet (fail)
          go_wp2_with fail
          go_ret
          exact ⟨ret_bool (by rw [HD.out, HD2.out, HOK'.out]; rfl), below_drewN hO.below _⟩
        · have HOK : ok = false := by
            rw [Bool.eq_false_iff]
            intro h
            obtain ⟨q1, q2, q3, q4, q5, q6, q7⟩ := HI.1 h
            simp at g5; omega
          have HOK' := Lib.hid HOK
          clear HOK HI hprev
          go_wp2_with (first
          | (go_at_call 34; (with_reducible refine (ht _).mono ?_); rintro e w1 ⟨rfl, hb1⟩; replace hO := (Own.new1 hO 35 _).grow hb1; have hcl1 := hO.b0.cell; have hcw1 := hO.b1.cell; obtain ⟨hkc, _⟩ := bcell ((below_of_alloc hb1 : Below _ wr w1)))
          | (go_at_call 35; (with_reducible refine (hsz _).mono ?_); rintro e w2 ⟨rfl, hb2⟩; replace hO := hO.grow hb2; have hcl2 := hO.b0.cell; have hcw2 := hO.b1.cell; have hkc2 := (bcell hb2).1))
          go_quiet (fail)
          go_wp2_with fail
          go_ret
          exact ⟨ret_bool (by rw [HD.out, HD2.out, HOK'.out]; rfl), below_drewN hO.below _⟩
        · have HOK : ok = false := by
            rw [Bool.eq_false_iff]
            intro h
            obtain ⟨q1, q2, q3, q4, q5, q6, q7⟩ := HI.1 h
            simp at g6; omega
          have HOK' := Lib.hid HOK
          clear HOK HI
          rcases k with _ | j
          · exact absurd ((HTT.out rfl rfl).symm.trans g6) (by simp)
          · have hp := hprev j rfl
            have hw0 : j < n := by omega
            have hw1 : (j : Int) < (n : Int) := by omega
            have hw2 : IntKind.i64.wrap (j : Int) = (j : Int) := IntWalk.i64_in _ (by omega)
            have hw3 : IntKind.i64.wrap ((j : Int) + 1 - 1) = (j : Int) := by rw [show (j : Int) + 1 - 1 = j by omega]; exact hw2
            clear hprev
            go_wp2_with (first
          | (go_at_call 34; (with_reducible refine (ht _).mono ?_); rintro e w1 ⟨rfl, hb1⟩; replace hO := (Own.new1 hO 35 _).grow hb1; have hcl1 := hO.b0.cell; have hcw1 := hO.b1.cell; obtain ⟨hkc, _⟩ := bcell ((below_of_alloc hb1 : Below _ wr w1)))
          | (go_at_call 35; (with_reducible refine (hsz _).mono ?_); rintro e w2 ⟨rfl, hb2⟩; replace hO := hO.grow hb2; have hcl2 := hO.b0.cell; have hcw2 := hO.b1.cell; have hkc2 := (bcell hb2).1))
            have hp2 : w2.cell? ⟨b, off + j * 4, none⟩ = some (.int .i64 la) := (hkc2 _ _ (Nat.lt_of_lt_of_le hb (below_of_alloc hb1).size)).trans ((hkc _ _ hb).trans hp)
            go_quiet (fail)
            go_wp2_with fail
            go_ret
            exact ⟨ret_bool (by rw [HD.out, HD2.out, HOK'.out]; rfl), below_drewN hO.below _⟩
        · have HOK : ok = true := HI.2 ⟨rfl, by simp at g6; omega, by simp at g2; omega, by simp at g3; omega, by simp at g4; omega, by simp at g5; omega, rfl⟩
          have HOK' := Lib.hid HOK
          clear HOK HI
          have hrest : ∀ q w2, Own w w2 [(w.heap.size, 25, #[.int .i64 x1, .int .i64 x2, .int .i64 x3, .int .i64 x4, .slice (some ⟨b, off, none⟩) n c]), q] → Below wr.heap.size wr w2 → ∃ k' : Nat, k' ≤ n ∧ Value.int .i64 ((k : Int) + 1) = .int .i64 k' ∧ wtsOk x2 (-1) ws = wtsOk x2 (lastT ws k') (ws.drop k') ∧ Own w w2 [(w.heap.size, 25, #[.int .i64 x1, .int .i64 x2, .int .i64 x3, .int .i64 x4, .slice (some ⟨b, off, none⟩) n c])] ∧ WaitsAt w2 (some ⟨b, off, none⟩) xs := by
            intro q w2 hO2 hb2
            exact ⟨k + 1, by omega, by go_num, by rw [HD.out, HD2.out, HOK'.out]; rfl, ⟨hO2.below, fun x hx => hO2.blk x (by simp at hx; simp [hx]), by simp⟩, hW.below hb2⟩
          have HR := Lib.hid hrest
          clear hrest
          rcases k with _ | j
          · simp only [Nat.zero_mul, Nat.add_zero] at hc0 hc1 hc2 hc3
            clear hprev
            go_wp2_with (first
          | (go_at_call 34; (with_reducible refine (ht _).mono ?_); rintro e w1 ⟨rfl, hb1⟩; replace hO := (Own.new1 hO 35 _).grow hb1; have hcl1 := hO.b0.cell; have hcw1 := hO.b1.cell; obtain ⟨hkc, _⟩ := bcell ((below_of_alloc hb1 : Below _ wr w1)))
          | (go_at_call 35; (with_reducible refine (hsz _).mono ?_); rintro e w2 ⟨rfl, hb2⟩; replace hO := hO.grow hb2; have hcl2 := hO.b0.cell; have hcw2 := hO.b1.cell; have hkc2 := (bcell hb2).1))
            go_quiet (fail)
            try clear hw1 hw2 hw3 hp2
            go_wp2_with fail
            go_roundw
            case rel => exact HR.out _ _ (hO.grow (below_drewN (Below.refl _ _) _)) (by exact below_drewN ((below_of_alloc hb1).trans (hb2.mono (below_of_alloc hb1).size)) _)
            case measure => simp [intOf]; omega
          · have hp := hprev j rfl
            have hw0 : j < n := by omega
            have hw1 : (j : Int) < (n : Int) := by omega
            have hw2 : IntKind.i64.wrap (j : Int) = (j : Int) := IntWalk.i64_in _ (by omega)
            have hw3 : IntKind.i64.wrap ((j : Int) + 1 - 1) = (j : Int) := by rw [show (j : Int) + 1 - 1 = j by omega]; exact hw2
            clear hprev
            go_wp2_with (first
          | (go_at_call 34; (with_reducible refine (ht _).mono ?_); rintro e w1 ⟨rfl, hb1⟩; replace hO := (Own.new1 hO 35 _).grow hb1; have hcl1 := hO.b0.cell; have hcw1 := hO.b1.cell; obtain ⟨hkc, _⟩ := bcell ((below_of_alloc hb1 : Below _ wr w1)))
          | (go_at_call 35; (with_reducible refine (hsz _).mono ?_); rintro e w2 ⟨rfl, hb2⟩; replace hO := hO.grow hb2; have hcl2 := hO.b0.cell; have hcw2 := hO.b1.cell; have hkc2 := (bcell hb2).1))
            have hp2 : w2.cell? ⟨b, off + j * 4, none⟩ = some (.int .i64 la) := (hkc2 _ _ (Nat.lt_of_lt_of_le hb (below_of_alloc hb1).size)).trans ((hkc _ _ hb).trans hp)
            go_quiet (fail)
            try clear hw1 hw2 hw3 hp2
            go_wp2_with fail
            go_roundw
            case rel => exact HR.out _ _ (hO.grow (below_drewN (Below.refl _ _) _)) (by exact below_drewN ((below_of_alloc hb1).trans (hb2.mono (below_of_alloc hb1).size)) _)
            case measure => simp [intOf]; omega
      · obtain rfl : k = n := by omega
        go_wp2_with fail
        go_ret
        exact ⟨ret_bool (by rw [HD.out, wtsOk_end (by have h1 := HN.out; omega)]), hO.below⟩
end Go.Proofs.Ytiloammjejggjaa
