/- The document's place, Heard and Lists. -/
import Derived.Test.YtiloammjejggjaaLinkSame
import Derived.Test.YtiloammjejggjaaLinkTick
import Derived.Deep.QuietTactic
import Derived.BigQuiet
set_option linter.unusedSimpArgs false
set_option linter.unusedVariables false
namespace Go.Proofs.Ytiloammjejggjaa
open Go.RowKit

/-- Where a time's message stands; below 0: there is none. -/
def placeI (ws : List Wt) (t : Int) : Int := if findB ws t then ((ws.findIdx fun x => decide (x.t = t) : Nat) : Int) else -1
theorem placeI_neg {ws : List Wt} {t : Int} (h : findB ws t = false) : placeI ws t = -1 := by unfold placeI; rw [h]; rfl
theorem placeI_pos {ws : List Wt} {t : Int} (h : findB ws t = true) : 0 ≤ placeI ws t := by unfold placeI; rw [h, if_pos rfl]; exact Int.natCast_nonneg _
/-- No one of the first k stands there. -/
def noneK (ws : List Wt) (t : Int) (k : Nat) : Prop := ∀ j x, j < k → ws[j]? = some x → x.t ≠ t
theorem noneK_succ {ws : List Wt} {t : Int} {k : Nat} {x : Wt} (h : noneK ws t k) (hk : ws[k]? = some x) (hx : x.t ≠ t) : noneK ws t (k + 1) := by
  intro j y hj hy
  rcases Nat.lt_or_eq_of_le (Nat.le_of_lt_succ hj) with hj | rfl
  · exact h j y hj hy
  · rw [hk] at hy; injection hy with hy; subst hy; exact hx
theorem noneK_at {ws : List Wt} {t : Int} {k : Nat} {x : Wt} (h : noneK ws t k) (hk : ws[k]? = some x) (hx : x.t = t) : placeI ws t = k := by
  have hb : findB ws t = true := List.any_eq_true.2 ⟨x, List.mem_of_getElem? hk, by simpa using hx⟩
  obtain ⟨hlt, rfl⟩ := List.getElem?_eq_some_iff.1 hk
  unfold placeI
  rw [hb, if_pos rfl]
  congr 1
  rw [List.findIdx_eq hlt]
  exact ⟨by simpa using hx, fun j hj => by simpa using h j ws[j] hj (List.getElem?_eq_getElem _)⟩
theorem noneK_end {ws : List Wt} {t : Int} (h : noneK ws t ws.length) : placeI ws t = -1 := by
  refine placeI_neg ?_
  unfold findB
  rw [List.any_eq_false]
  intro x hx
  obtain ⟨j, hj⟩ := List.getElem?_of_mem hx
  simpa using h j x (List.getElem?_eq_some_iff.1 hj).1 hj
theorem ret_int {a b : Int} (h : a = b) : Ending.returned (.int .i64 a) = Ending.returned (.int .i64 b) := by rw [h]
set_option maxHeartbeats 4000000 in
theorem rlplace_k (l : Lk) (A : Option Addr) (n c : Nat) (xs : List (Wt × Value)) (t : Int) (w : World) (hx : xs.map (·.1) = l.waits) (hn : l.waits.length = n) (hW : WaitsAt w A xs) (hc : n ≤ 9223372036854775807) :
    Calls Try.prog 36 #[.agg #[.int .i64 l.period, .int .i64 l.most, .int .i64 l.quiet, .int .i64 l.heard, .slice A n c], .int .i64 t] w fun e w' => e = .returned (.int .i64 (placeI l.waits t)) ∧ Below w.heap.size w w' := by
  have hO : Own w _ [_] := (Own.nil w).new0 25 #[.int .i64 l.period, .int .i64 l.most, .int .i64 l.quiet, .int .i64 l.heard, .slice A n c]
  have hcl := hO.b0.cell
  obtain ⟨ws, hws⟩ : ∃ ws, ws = l.waits := ⟨_, rfl⟩
  rw [← hws] at hx hn ⊢
  clear hws
  generalize l.period = x1 at *
  generalize l.most = x2 at *
  generalize l.quiet = x3 at *
  generalize l.heard = x4 at *
  have HN := Lib.hid hn
  have HX := Lib.hid hx
  clear hn hx
  go_enter Try.func36, Try.ntmps36
  go_wp2_with fail
  replace hW := hW.below hO.below
  clear hcl
  go_loopw [5] (fun i wr => ∃ k : Nat, k ≤ n ∧ i = .int .i64 k ∧ noneK ws t k ∧ Own w wr [(w.heap.size, 25, #[.int .i64 x1, .int .i64 x2, .int .i64 x3, .int .i64 x4, .slice A n c])] ∧ WaitsAt wr A xs) (fun i _ => n - (intOf i).toNat)
  case atStart => exact ⟨0, Nat.zero_le _, rfl, (fun j x hj => absurd hj (Nat.not_lt_zero _)), hO, hW⟩
  case round =>
    clear hO hW
    obtain ⟨k, hk, rfl, HL, hO, hW⟩ := hrel
    have hcl := hO.b0.cell
    by_cases hlt : k < n
    · obtain ⟨x, Ab, cb, b, off, hwk, hxk, rfl, hbl, hc0, hc1, hc2, hc3, hB⟩ := hW.get (k := k) HX.out (by have h1 := HN.out; omega)
      by_cases hb : x.t = t
      · have HP := Lib.hid (noneK_at HL hwk hb)
        clear hwk hxk HL
        have hd2 : decide (x.t = t) = true := decide_eq_true hb
        have hd3 : (x.t == t) = true := by simpa using hb
        clear hb
        go_wp2_with fail
        go_ret
        exact ⟨ret_int HP.out.symm, hO.below⟩
      · have HP := noneK_succ HL hwk hb
        clear hwk hxk HL
        have hd2 : decide (x.t = t) = false := decide_eq_false hb
        have hd3 : (x.t == t) = false := by simpa using hb
        clear hb
        go_wp2_with fail
        go_roundw
        case rel => exact ⟨k + 1, by omega, by go_num, HP, hO, hW⟩
        case measure => simp [intOf]; omega
    · obtain rfl : k = n := by omega
      go_wp2_with fail
      go_ret
      exact ⟨ret_int (noneK_end (by rw [HN.out]; exact HL)).symm, hO.below⟩
set_option maxHeartbeats 4000000 in
theorem rlheard_k (l : Lk) (A : Option Addr) (n c : Nat) (xs : List (Wt × Value)) (t : Int) (w : World) (hx : xs.map (·.1) = l.waits) (hn : l.waits.length = n) (hW : WaitsAt w A xs) (hc : n ≤ 9223372036854775807) (hu : IsWaits l.waits (.slice A n c) w) :
    Calls Try.prog 20 #[.agg #[.int .i64 l.period, .int .i64 l.most, .int .i64 l.quiet, .int .i64 l.heard, .slice A n c], .int .i64 t] w (RetR (heardL l t) (heardE l t) w) := by
  have hmay := fun W (h : WaitsAt W A xs) => rlmay_k l A n c xs W hx hn h hc
  have htm := fun W => rtime11_k t W
  have hO : Own w _ [_, _] := Own.start2 w 25 25 #[.int .i64 l.period, .int .i64 l.most, .int .i64 l.quiet, .int .i64 l.heard, .slice A n c] #[.int .i64 0, .int .i64 0, .int .i64 0, .int .i64 0, .slice none 0 0]
  have hcl := hO.b0.cell
  unfold heardL heardE
  generalize mayL l = b1 at *
  generalize isTime t = b2 at *
  clear hx hn
  have hcase : (b1 && b2) = false ∨ (b1 = true ∧ b2 = true) := by cases b1 <;> cases b2 <;> simp
  rcases hcase with hb | ⟨rfl, rfl⟩
  · rw [hb]
    simp only [Bool.false_eq_true, if_false, if_neg (by decide : ¬ (1 : Int) = 0)]
    have h2 : b1 = false ∨ (b1 = true ∧ b2 = false) := by cases b1 <;> cases b2 <;> simp_all
    clear hb
    rcases h2 with rfl | ⟨rfl, rfl⟩
    all_goals
      go_enter Try.func20, Try.ntmps20
      go_wp2_with (first
        | ((with_reducible refine own_loadg0 hO ?_ _ rfl rfl _ Try.underlying25 rfl (by kernel_rfl) ?_); (· first | rfl | (simp [Region.wanted, yielded]; done)))
        | (go_at_call 23; (with_reducible refine (hmay _ (hW.below hO.below)).mono ?_); rintro e w1 ⟨rfl, hb1⟩; replace hO := hO.grow hb1)
        | (go_at_call 34; (with_reducible refine (htm _).mono ?_); rintro e w1 ⟨rfl, hb1⟩; replace hO := hO.grow hb1)
        | ((with_reducible refine own_row1 (#[.int .i64 0, .int .i64 0, .int .i64 0, .int .i64 0, .slice none 0 0]) hO rfl _ _ rfl rfl rfl (by kernel_rfl) rfl ?_ ?_); (· first | rfl | (simp [Value.oneCell']; done)); intro wR hOR hszR hkR; replace hO := hOR; clear hOR)
        )
      exact bodyPost_ret (results_ct Try.results20 _ _ _ _ _ _ rfl rfl hO.b1 Try.underlying25 rfl (by kernel_rfl)) rfl ⟨_, rfl, ⟨_, rfl, IsWaits.nil _⟩, hO.below⟩
  · simp only [Bool.true_and, if_true]
    by_cases htl : l.heard < t
    · have hmx : max l.heard t = t := by omega
      rw [hmx]
      clear hmx
      have hd : decide (l.heard < t) = true := decide_eq_true htl
      clear htl
      go_enter Try.func20, Try.ntmps20
      go_wp2_with (first
        | ((with_reducible refine own_loadg0 hO ?_ _ rfl rfl _ Try.underlying25 rfl (by kernel_rfl) ?_); (· first | rfl | (simp [Region.wanted, yielded]; done)))
        | (go_at_call 23; (with_reducible refine (hmay _ (hW.below hO.below)).mono ?_); rintro e w1 ⟨rfl, hb1⟩; replace hO := hO.grow hb1; clear hcl)
        | (go_at_call 34; (with_reducible refine (htm _).mono ?_); rintro e w2 ⟨rfl, hb2⟩; have hOp := hO.grow hb2; replace hO := hOp.new2 25 #[.int .i64 0, .int .i64 0, .int .i64 0, .int .i64 0, .slice none 0 0])
        | ((with_reducible refine own_loadg0 hOp ?_ _ rfl rfl _ Try.underlying25 rfl (by kernel_rfl) ?_); (· first | rfl | (simp [Region.wanted, yielded]; done)); clear hOp)
        | ((with_reducible refine own_loadg2 hO ?_ _ rfl rfl _ Try.underlying25 rfl (by kernel_rfl) ?_); (· first | rfl | (simp [Region.wanted, yielded]; done)))
        | ((with_reducible refine own_row2 #[.int .i64 l.period, .int .i64 l.most, .int .i64 l.quiet, .int .i64 l.heard, .slice A n c] hO rfl _ _ rfl rfl rfl (by kernel_rfl) rfl ?_ ?_); (· (simp [Value.oneCell']; done)); intro wR hOR hszR hkR; replace hO := hOR; clear hOR hszR hkR; have hcl2 := hO.b0.cell)
        | ((with_reducible refine own_cell2 3 (.int .i64 t) hO rfl 3 _ _ rfl rfl rfl (by kernel_rfl) ?_ rfl ?_); (· (simp; done)); intro wR hOR hszR hkR; replace hO := hOR; clear hOR hszR hkR hcl2)
        | ((with_reducible refine own_row1 #[.int .i64 l.period, .int .i64 l.most, .int .i64 l.quiet, .int .i64 t, .slice A n c] hO rfl _ _ rfl rfl rfl (by kernel_rfl) rfl ?_ ?_); (· (simp [Value.oneCell']; done)); intro wR hOR hszR hkR; replace hO := hOR; clear hOR hszR hkR)
        )
      exact bodyPost_ret (results_ct Try.results20 _ _ _ _ _ _ rfl rfl hO.b1 Try.underlying25 rfl (by kernel_rfl)) rfl ⟨_, rfl, ⟨_, rfl, hu.grow hO.below⟩, hO.below⟩
    · have hmx : max l.heard t = l.heard := by omega
      rw [hmx]
      clear hmx
      have hd : decide (l.heard < t) = false := decide_eq_false htl
      clear htl
      go_enter Try.func20, Try.ntmps20
      go_wp2_with (first
        | ((with_reducible refine own_loadg0 hO ?_ _ rfl rfl _ Try.underlying25 rfl (by kernel_rfl) ?_); (· first | rfl | (simp [Region.wanted, yielded]; done)))
        | (go_at_call 23; (with_reducible refine (hmay _ (hW.below hO.below)).mono ?_); rintro e w1 ⟨rfl, hb1⟩; replace hO := hO.grow hb1; clear hcl)
        | (go_at_call 34; (with_reducible refine (htm _).mono ?_); rintro e w2 ⟨rfl, hb2⟩; have hOp := hO.grow hb2; replace hO := hOp.new2 25 #[.int .i64 0, .int .i64 0, .int .i64 0, .int .i64 0, .slice none 0 0])
        | ((with_reducible refine own_loadg0 hOp ?_ _ rfl rfl _ Try.underlying25 rfl (by kernel_rfl) ?_); (· first | rfl | (simp [Region.wanted, yielded]; done)); clear hOp)
        | ((with_reducible refine own_loadg2 hO ?_ _ rfl rfl _ Try.underlying25 rfl (by kernel_rfl) ?_); (· first | rfl | (simp [Region.wanted, yielded]; done)))
        | ((with_reducible refine own_row2 #[.int .i64 l.period, .int .i64 l.most, .int .i64 l.quiet, .int .i64 l.heard, .slice A n c] hO rfl _ _ rfl rfl rfl (by kernel_rfl) rfl ?_ ?_); (· (simp [Value.oneCell']; done)); intro wR hOR hszR hkR; replace hO := hOR; clear hOR hszR hkR; have hcl2 := hO.b0.cell)
        | ((with_reducible refine own_row1 #[.int .i64 l.period, .int .i64 l.most, .int .i64 l.quiet, .int .i64 l.heard, .slice A n c] hO rfl _ _ rfl rfl rfl (by kernel_rfl) rfl ?_ ?_); (· (simp [Value.oneCell']; done)); intro wR hOR hszR hkR; replace hO := hOR; clear hOR hszR hkR)
        )
      exact bodyPost_ret (results_ct Try.results20 _ _ _ _ _ _ rfl rfl hO.b1 Try.underlying25 rfl (by kernel_rfl)) rfl ⟨_, rfl, ⟨_, rfl, hu.grow hO.below⟩, hO.below⟩
theorem IsParts.get {w : World} {A : Option Addr} {q c : Nat} {bss : List (List UInt8)} (h : IsParts bss (.slice A q c) w) : bss.length = q ∧ ∀ j, j < q → ∃ p b off Ax cx, bss[j]? = some p ∧ A = some ⟨b, off, none⟩ ∧ b < w.heap.size ∧ w.cell? ⟨b, off + j, none⟩ = some (.slice Ax p.length cx) ∧ Bytes w Ax cx p := by
  obtain ⟨A', c', vs, e, hrow, hvl, hvb, _⟩ := h
  simp only [Value.slice.injEq] at e
  obtain ⟨rfl, rfl, rfl⟩ := e
  refine ⟨rfl, fun j hj => ?_⟩
  have hz : vs[j]? = some (vs[j]'(by omega)) := List.getElem?_eq_getElem _
  have hp : bss[j]? = some bss[j] := List.getElem?_eq_getElem _
  obtain ⟨b, off, rfl, hlt, hcz⟩ := hrow.at_ hz
  obtain ⟨Ax, cx, hv, hBx⟩ := hvb j _ _ hp hz
  rw [hv] at hcz
  exact ⟨bss[j], b, off, Ax, cx, hp, rfl, hlt, hcz, hBx⟩
set_option maxHeartbeats 4000000 in
theorem rllists_k (bss : List (List UInt8)) (A1 A2 : Option Addr) (q c1 c2 : Nat) (w : World) (hu : IsParts bss (.slice A1 q c1) w) (hv : IsParts bss (.slice A2 q c2) w) (hq : q ≤ 9223372036854775807) :
    Calls Try.prog 22 #[.slice A1 q c1, .slice A2 q c2] w fun e w' => e = .returned (.bool true) ∧ Below w.heap.size w w' := by
  go_enter Try.func22, Try.ntmps22
  go_wp2_with fail
  go_loopw [5] (fun i wr => ∃ k : Nat, k ≤ q ∧ i = .int .i64 k ∧ Below w.heap.size w wr) (fun i _ => q - (intOf i).toNat)
  case atStart => exact ⟨0, Nat.zero_le _, rfl, Below.refl _ _⟩
  case round =>
    obtain ⟨k, hk, rfl, hb⟩ := hrel
    by_cases hlt : k < q
    · obtain ⟨p, bp, op, Ap, cp, hpj, rfl, hbp, hcp, hBp⟩ := (hu.grow hb).get.2 k hlt
      obtain ⟨p', bp', op', Ap', cp', hpj', rfl, hbp', hcp', hBp'⟩ := (hv.grow hb).get.2 k hlt
      obtain rfl : p = p' := by rw [hpj] at hpj'; injection hpj'
      obtain ⟨s1, hs1⟩ : ∃ s1, s1 = strOf p := ⟨_, rfl⟩
      have hv1 : ∀ n, (convert 33 9 (.slice Ap p.length cp)).run Try.prog (wr.drewN n) = .ok (.string s1) (wr.drewN n) := fun n => by
        rw [hs1]
        exact run_bytes_string (hBp.drewN n)
      have hv2 : ∀ n, (convert 33 9 (.slice Ap' p.length cp')).run Try.prog (wr.drewN n) = .ok (.string s1) (wr.drewN n) := fun n => by
        rw [hs1]
        exact run_bytes_string (hBp'.drewN n)
      clear hs1 hpj hpj' hBp hBp'
      generalize p.length = pb at *
      go_wp2_with fail
      go_quiet (fail)
      go_wp2_with fail
      go_roundw
      case rel => exact ⟨k + 1, by omega, by go_num, below_drewN hb _⟩
      case measure => simp [intOf]; omega
    · obtain rfl : k = q := by omega
      go_wp2_with fail
      go_ret
      exact ⟨rfl, hb⟩
end Go.Proofs.Ytiloammjejggjaa
