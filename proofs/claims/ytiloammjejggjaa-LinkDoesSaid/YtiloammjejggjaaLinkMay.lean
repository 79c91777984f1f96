/- link.May: may a link be? -/
import Derived.Test.YtiloammjejggjaaLinkSmall
import Derived.Test.YtiloammjejggjaaOwnLaw
set_option linter.unusedSimpArgs false
set_option linter.unusedVariables false
namespace Go.Proofs.Ytiloammjejggjaa
open Go.RowKit

theorem ret_bool {a b : Bool} (h : a = b) : Ending.returned (.bool a) = .returned (.bool b) := by rw [h]
abbrev linkC (l : Lk) (u : Value) : Array Value := #[.int .i64 l.period, .int .i64 l.most, .int .i64 l.quiet, .int .i64 l.heard, u]
set_option maxHeartbeats 4000000 in
theorem lkmay_no (l : Lk) (A : Option Addr) (n c : Nat) (xs : List (Wt × Value)) (w : World) (hx : xs.map (·.1) = l.waits) (hn : l.waits.length = n) (hW : WaitsAt w A xs) (hh : headOk l = false) (hc : n ≤ 9223372036854775807) :
    Calls Try.prog 13 #[.agg #[.int .i64 l.period, .int .i64 l.most, .int .i64 l.quiet, .int .i64 l.heard, .slice A n c]] w fun e w' => e = .returned (.bool (mayL l)) ∧ Below w.heap.size w w' := by
  have hO : Own w _ [_] := (Own.nil w).new0 25 #[.int .i64 l.period, .int .i64 l.most, .int .i64 l.quiet, .int .i64 l.heard, .slice A n c]
  have hm : mayL l = false := by simp [mayL, hh]
  have ht := fun W => lktime_k l.heard W
  have hh' : ¬ (1 ≤ l.period ∧ l.period ≤ 1048576 ∧ 1 ≤ l.quiet ∧ l.quiet ≤ 1048576 ∧ 0 ≤ l.most ∧ l.most ≤ 20 ∧ isTime l.heard = true ∧ n ≤ 8) := by
    rw [← hn, ← headOk_iff, hh]; simp
  rw [hm]
  have hcl := hO.b0.cell
  clear hh hm hx hn hW
  generalize l.period = x1 at *
  generalize l.most = x2 at *
  generalize l.quiet = x3 at *
  generalize l.heard = x4 at *
  have HH := Lib.hid hh'
  clear hh'
  cases hti : isTime x4
  all_goals
    rw [hti] at ht
    have HT := Lib.hid hti
    clear hti
    go_enter Try.func13, Try.ntmps13
    go_wp2_with (go_at_call 25; (with_reducible refine (ht _).mono ?_); rintro e w1 ⟨rfl, hb1⟩; replace hO := hO.grow hb1; have hcl1 := hO.b0.cell)
    all_goals first
      | (go_ret; exact ⟨rfl, hO.below⟩)
      | (exfalso; refine HH.out ⟨?_, ?_, ?_, ?_, ?_, ?_, HT.out, ?_⟩ <;> omega)
      | skip
set_option maxHeartbeats 4000000 in
theorem lkmay_k (l : Lk) (A : Option Addr) (n c : Nat) (xs : List (Wt × Value)) (w : World) (hx : xs.map (·.1) = l.waits) (hn : l.waits.length = n) (hW : WaitsAt w A xs) (hc : n ≤ 9223372036854775807) :
    Calls Try.prog 13 #[.agg #[.int .i64 l.period, .int .i64 l.most, .int .i64 l.quiet, .int .i64 l.heard, .slice A n c]] w fun e w' => e = .returned (.bool (mayL l)) ∧ Below w.heap.size w w' := by
  cases hh : headOk l with
  | false => exact lkmay_no l A n c xs w hx hn hW hh hc
  | true =>
    have hO : Own w _ [_] := (Own.nil w).new0 25 #[.int .i64 l.period, .int .i64 l.most, .int .i64 l.quiet, .int .i64 l.heard, .slice A n c]
    have hm : mayL l = wtsOk l.most (-1) l.waits := by simp [mayL, hh]
    rw [hm]
    clear hm
    obtain ⟨h1, h2, h3, h4, h5, h6, hti, h8⟩ := headOk_iff.1 hh
    have ht0 := fun W => lktime_k l.heard W
    rw [hti] at ht0
    have hcl := hO.b0.cell
    rw [hn] at h8
    clear hh hti
    obtain ⟨ws, hws⟩ : ∃ ws, ws = l.waits := ⟨_, rfl⟩
    rw [← hws] at hx hn ⊢
    clear hws
    generalize l.period = x1 at *
    generalize l.most = x2 at *
    generalize l.quiet = x3 at *
    generalize l.heard = x4 at *
    have e1 : decide (x1 < 1) = false := by simp; omega
    have e2 : decide (1048576 < x1) = false := by simp; omega
    have e3 : decide (x3 < 1) = false := by simp; omega
    have e4 : decide (1048576 < x3) = false := by simp; omega
    have e5 : decide (x2 < 0) = false := by simp; omega
    have e6 : decide (20 < x2) = false := by simp; omega
    have e7 : decide (8 < (n : Int)) = false := by simp; omega
    have HN := Lib.hid hn
    have HX := Lib.hid hx
    clear hn hx
    go_enter Try.func13, Try.ntmps13
    go_wp2_with (go_at_call 25; (with_reducible refine (ht0 _).mono ?_); rintro e w1 ⟨rfl, hb1⟩; replace hO := hO.grow hb1; have hcl1 := hO.b0.cell)
    clear hcl ht0 e1 e2 e3 e4 e5 e6 e7
    replace hW := hW.below hO.below
    go_loopw [3, 49] (fun la i wr => ∃ k : Nat, k ≤ n ∧ i = .int .i64 k ∧ la = .int .i64 (lastT ws k) ∧ wtsOk x2 (-1) ws = wtsOk x2 (lastT ws k) (ws.drop k) ∧ Own w wr [(w.heap.size, 25, #[.int .i64 x1, .int .i64 x2, .int .i64 x3, .int .i64 x4, .slice A n c])] ∧ WaitsAt wr A xs) (fun _ i _ => n - (intOf i).toNat)
    case atStart => exact ⟨0, Nat.zero_le _, rfl, rfl, rfl, hO, hW⟩
    case round =>
      obtain ⟨k, hk, rfl, rfl, hd, hO, hW⟩ := hrel
      have hcl := hO.b0.cell
      have HD := Lib.hid hd
      clear hd hcl1
      by_cases hlt : k < n
      · obtain ⟨x, Ab, cb, b, off, hwk, hxk, rfl, hb, hc0, hc1, hc2, hc3, hB⟩ := hW.get (k := k) HX.out (by have h1 := HN.out; omega)
        have hBl := hB.len_le
        have hsz := fun W => lksized_k Ab x.body.length cb W (by omega)
        have ht := fun W => lktime_k x.t W
        have HD2 := Lib.hid (wtsOk_drop (most := x2) hwk)
        have HL := Lib.hid (lastT_succ hwk)
        have HI := @wtOk_iff x2 (lastT ws k) x
        have hsi : (decide (1 ≤ x.body.length) && decide (x.body.length ≤ 1023)) = isSized x.body := rfl
        simp only [hsi] at hsz
        clear hwk hsi
        generalize lastT ws k = la at *
        generalize x.body.length = nb at *
        obtain ⟨iT, hiT⟩ : ∃ b, b = isTime x.t := ⟨_, rfl⟩
        obtain ⟨iS, hiS⟩ : ∃ b, b = isSized x.body := ⟨_, rfl⟩
        rw [← hiT] at ht HI
        rw [← hiS] at hsz HI
        clear hiT hiS
        obtain ⟨xt, hxt⟩ : ∃ b, b = x.t := ⟨_, rfl⟩
        obtain ⟨xd, hxd⟩ : ∃ b, b = x.due := ⟨_, rfl⟩
        obtain ⟨xr, hxr⟩ : ∃ b, b = x.tries := ⟨_, rfl⟩
        simp only [← hxt, ← hxd, ← hxr] at hc0 hc1 hc2 ht HI
        have HT := Lib.hid hxt
        clear hxt hxd hxr
        cases hok : wtOk x2 la x with
        | false =>
          rw [hok] at HI
          have HJ := Lib.hid HI
          have HK := Lib.hid hok
          clear HI hok
          cases iT <;> cases iS
          all_goals
            go_wp2_with (first
              | (go_at_call 25; (with_reducible refine (ht _).mono ?_); rintro e w1 ⟨rfl, hb1⟩; replace hO := (Own.new1 hO 35 _).grow hb1; have hcl1 := hO.b0.cell; have hcw1 := hO.b1.cell)
              | (go_at_call 26; (with_reducible refine (hsz _).mono ?_); rintro e w2 ⟨rfl, hb2⟩; replace hO := hO.grow hb2))
            all_goals first
              | (go_ret; exact ⟨by rw [HD.out, HD2.out, HK.out]; rfl, hO.below⟩)
              | (exfalso; exact absurd (HJ.out.2 ⟨(by simp), (by omega), (by omega), (by omega), (by omega), (by omega), (by simp)⟩) (by simp))

        | true =>
          rw [hok] at HI
          obtain ⟨rfl, f1, f2, f3, f4, f5, rfl⟩ := HI.1 rfl
          have HK := Lib.hid hok
          clear HI hok
          have g1 : decide (xt ≤ la) = false := by simp; omega
          have g2 : decide (xd < 0) = false := by simp; omega
          have g3 : decide (8589934592 < xd) = false := by simp; omega
          have g4 : decide (xr < 0) = false := by simp; omega
          have g5 : decide (x2 < xr) = false := by simp; omega
          go_wp2_with (first
            | (go_at_call 25; (with_reducible refine (ht _).mono ?_); rintro e w1 ⟨rfl, hb1⟩; replace hO := (Own.new1 hO 35 _).grow hb1; have hcl1 := hO.b0.cell; have hcw1 := hO.b1.cell)
            | (go_at_call 26; (with_reducible refine (hsz _).mono ?_); rintro e w2 ⟨rfl, hb2⟩; replace hO := hO.grow hb2; have hcl2 := hO.b0.cell; have hcw2 := hO.b1.cell))
          go_roundw
          case rel => exact ⟨k + 1, by omega, by go_num, by rw [HL.out, HT.out], by rw [HD.out, HD2.out, HK.out]; rfl, ⟨hO.below, fun x hx => hO.blk x (by simp at hx; simp [hx]), by simp⟩, hW.below (by
              have := hb1.size
              exact ((Below.refl _ _).alloc (Nat.le_refl _) _).trans ((hb1.trans (hb2.mono (by simpa using this))).mono (by simp)))⟩
          case measure => simp [intOf]; omega
      · obtain rfl : k = n := by omega
        go_wp2_with fail
        go_ret
        exact ⟨ret_bool (by rw [HD.out, wtsOk_end (by have h1 := HN.out; omega)]), hO.below⟩
end Go.Proofs.Ytiloammjejggjaa
