/- OdoHolds: what Between tells holds what Whole tells of the reading, and of each other one that lies between; it is no less wide where a reading may be off by more. -/
import Derived.Test.YtoneofdihknnoaaOdoIn
import Derived.Test.YtoneofdihknnoaaOdoHolds
set_option linter.unusedSimpArgs false
set_option linter.unusedVariables false
namespace Go.Proofs.Ytoneofdihknnoaa
open Go.ChangeShapes Go.WideShapes Go.ChangeAt Go.RowKit

theorem holds_no (x off y e : Nat) (w : World) (h : (betweenV x off).1 = 0 ∧ (betweenV x off).2.1 = 0 ∧ (betweenV x off).2.2 = e) (he : e = 40 ∨ e = 7) : Calls Try.prog 5 #[.float .f64 x, .float .f64 off, .float .f64 y] w fun e w' => e = .returned (.bool true) ∧ Below w.heap.size w w' := by
  have hB := fun W => odbetween_k x off W
  rw [h.1, h.2.1, h.2.2] at hB
  clear h
  rcases he with rfl | rfl <;>
  (go_enter Try.func5, Try.ntmps5
   go_wp2_with (first
     | (go_at_call 9; (with_reducible refine (awake4_any _).mono ?_); rintro e w1 ⟨rfl, hb1⟩)
     | (go_at_call 12; (with_reducible refine (hB _).mono ?_); rintro e w2 ⟨rfl, hb2⟩))
   go_ret
   exact ⟨rfl, hb1.trans (hb2.mono hb1.size)⟩)
theorem bel4 {w w1 w2 w3 w4 : World} (h1 : Below w.heap.size w w1) (h2 : Below w1.heap.size w1 w2) (h3 : Below w2.heap.size w2 w3) (h4 : Below w3.heap.size w3 w4) : Below w.heap.size w w4 :=
  h1.trans ((h2.mono h1.size).trans ((h3.mono (Nat.le_trans h1.size h2.size)).trans (h4.mono (Nat.le_trans h1.size (Nat.le_trans h2.size h3.size)))))
theorem bel5 {w w1 w2 w3 w4 w5 : World} (h1 : Below w.heap.size w w1) (h2 : Below w1.heap.size w1 w2) (h3 : Below w2.heap.size w2 w3) (h4 : Below w3.heap.size w3 w4) (h5 : Below w4.heap.size w4 w5) : Below w.heap.size w w5 :=
  (bel4 h1 h2 h3 h4).trans (h5.mono (bel4 h1 h2 h3 h4).size)
set_option maxHeartbeats 4000000 in
theorem odoHolds_walk (x off y : Nat) (w : World) (hx : x < 2 ^ 64) (ho : off < 2 ^ 64) (hy : y < 2 ^ 64) : Calls Try.prog 5 #[.float .f64 x, .float .f64 off, .float .f64 y] w fun e w' => e = .returned (.bool true) ∧ Below w.heap.size w w' := by
  rcases between_cases x off with (h | h) | ⟨p, q, l, h, hp, hq, hl, hh, hwl, hwh, h0, hbt⟩
  · exact holds_no x off y 40 w (by rw [h]; exact ⟨rfl, rfl, rfl⟩) (.inl rfl)
  · exact holds_no x off y 7 w (by rw [h]; exact ⟨rfl, rfl, rfl⟩) (.inr rfl)
  · obtain ⟨⟨m, hm, hwm, c1, c2⟩, nx, o2, p2, q2, l2, h2, ho2, no2, k0, hp2, hq2, hl2, hh2, wl2, wh2, d1, d2⟩ := holds_main hp hq hl hh hwl hwh h0
    have hB := fun W => odbetween_k x off W
    rw [hbt] at hB
    have hW := fun W => odwhole_k x W
    rw [whole_yes nx hm hwm] at hW
    have hB2 := fun W => odbetween_k x o2 W
    rw [between_yes nx no2 k0 hp2 hq2 hl2 hh2 wl2 wh2] at hB2
    have hsub := fun W t => run_float_arith (P := Try.prog) W .sub t .f64 x off p hp
    have hadd := fun W t => run_float_arith (P := Try.prog) W .add t .f64 x off q hq
    have hquo := fun W t => run_float_arith (P := Try.prog) W .quo t .f64 off 4611686018427387904 o2 ho2
    have i1 := floor_le c1
    have i2 := Int.le_trans (floor_ceil m) (ceil_le c2)
    have i3 : floorK l ≤ ceilK h := Int.le_trans i1 i2
    have i4 := floor_le d1
    have i5 := ceil_le d2
    have o1 : FloatKind.f64.format.order y p = cmpK y p := order_is _ _
    have o2' : FloatKind.f64.format.order y q = cmpK y q := order_is _ _
    have hmid := fun (hn : isNan y = false) h1 h2 => mid_whole (b := y) hl hh hwl hwh hn h1 h2
    have np : isNan p = false := fin_nan (mul_within hl hwl)
    have nq : isNan q = false := fin_nan (mul_within hh hwh)
    have hcond : (∃ n : Int, (∀ W, Calls Try.prog 10 #[.float .f64 y] W fun e w' => e = .returned (.tuple #[.int .i64 n, .int .i64 0]) ∧ Below W.heap.size W w') ∧ floorK l ≤ n ∧ n ≤ ceilK h) ∨
        (FloatKind.f64.format.order y p = none ∨ FloatKind.f64.format.order y p = some .lt ∨ FloatKind.f64.format.order y q = none ∨ FloatKind.f64.format.order y q = some .gt) := by
      by_cases hn : isNan y = true
      · exact .inr (.inl (by rw [o1, cmp_none _ _ hn]))
      · replace hn : isNan y = false := by simpa using hn
        rw [o1, o2', cmp_some _ _ hn np, cmp_some _ _ hn nq]
        by_cases a : key64 p ≤ key64 y
        · by_cases b : key64 y ≤ key64 q
          · obtain ⟨m', e, wm, g1, g2⟩ := hmid hn a b
            refine .inl ⟨floorK m', fun W => ?_, floor_le g1, Int.le_trans (floor_ceil m') (ceil_le g2)⟩
            have := odwhole_k y W
            rwa [whole_yes hn e wm] at this
          · exact .inr (.inr (.inr (.inr (by rw [Int.compare_eq_gt.2 (by omega)]))))
        · exact .inr (.inr (.inl (by rw [Int.compare_eq_lt.2 (by omega)])))
    clear hmid o1 o2' np nq d1 d2 c1 c2 hbt h0 hwl hwh hl hh hp hq hm hwm nx ho2 no2 k0 hp2 hq2 hl2 hh2 wl2 wh2 hx ho hy
    generalize floorK l = lo at *
    generalize ceilK h = hi at *
    generalize floorK m = n at *
    generalize floorK l2 = lo2 at *
    generalize ceilK h2 = hi2 at *
    have e1 : decide (n < lo) = false := decide_eq_false (by omega)
    have e2 : decide (n > hi) = false := decide_eq_false (by omega)
    have e3 : decide (lo > hi) = false := decide_eq_false (by omega)
    have e4 : decide (lo2 ≥ lo) = true := decide_eq_true (by omega)
    have e5 : decide (hi2 ≤ hi) = true := decide_eq_true (by omega)
    rcases hcond with ⟨n', hWy, j1, j2⟩ | hcond
    · have e6 : decide (n' < lo) = false := decide_eq_false (by omega)
      have e7 : decide (n' > hi) = false := decide_eq_false (by omega)
      go_enter Try.func5, Try.ntmps5
      go_wp2_with (
        (first
          | (go_at_call 9; (with_reducible refine (awake4_any _).mono ?_); rintro e w1 ⟨rfl, hb1⟩)
          | (go_at_call 12; (first | (with_reducible refine (hB _).mono ?_; rintro e w2 ⟨rfl, hb2⟩) | (with_reducible refine (hB2 _).mono ?_; rintro e w5 ⟨rfl, hb5⟩)))
          | (go_at_call 10; (first | (with_reducible refine (hW _).mono ?_; rintro e w3 ⟨rfl, hb3⟩) | (with_reducible refine (hWy _).mono ?_; rintro e w4 ⟨rfl, hb4⟩))))
        )
      all_goals
        go_ret
        first
          | exact ⟨rfl, bel5 hb1 hb2 hb3 hb4 hb5⟩
          | exact ⟨rfl, bel4 hb1 hb2 hb3 hb5⟩
    · have hWy := hW
      rcases hcond with hr | hr | hr | hr
      · go_enter Try.func5, Try.ntmps5
        go_wp2_with (
          (first
            | (go_at_call 9; (with_reducible refine (awake4_any _).mono ?_); rintro e w1 ⟨rfl, hb1⟩)
            | (go_at_call 12; (first | (with_reducible refine (hB _).mono ?_; rintro e w2 ⟨rfl, hb2⟩) | (with_reducible refine (hB2 _).mono ?_; rintro e w5 ⟨rfl, hb5⟩)))
            | (go_at_call 10; (first | (with_reducible refine (hW _).mono ?_; rintro e w3 ⟨rfl, hb3⟩) | (with_reducible refine (hWy _).mono ?_; rintro e w4 ⟨rfl, hb4⟩))))
          )
        go_ret
        exact ⟨rfl, bel4 hb1 hb2 hb3 hb5⟩
      · go_enter Try.func5, Try.ntmps5
        go_wp2_with (
          (first
            | (go_at_call 9; (with_reducible refine (awake4_any _).mono ?_); rintro e w1 ⟨rfl, hb1⟩)
            | (go_at_call 12; (first | (with_reducible refine (hB _).mono ?_; rintro e w2 ⟨rfl, hb2⟩) | (with_reducible refine (hB2 _).mono ?_; rintro e w5 ⟨rfl, hb5⟩)))
            | (go_at_call 10; (first | (with_reducible refine (hW _).mono ?_; rintro e w3 ⟨rfl, hb3⟩) | (with_reducible refine (hWy _).mono ?_; rintro e w4 ⟨rfl, hb4⟩))))
          )
        go_ret
        exact ⟨rfl, bel4 hb1 hb2 hb3 hb5⟩
      · go_enter Try.func5, Try.ntmps5
        go_wp2_with (
          (first
            | (go_at_call 9; (with_reducible refine (awake4_any _).mono ?_); rintro e w1 ⟨rfl, hb1⟩)
            | (go_at_call 12; (first | (with_reducible refine (hB _).mono ?_; rintro e w2 ⟨rfl, hb2⟩) | (with_reducible refine (hB2 _).mono ?_; rintro e w5 ⟨rfl, hb5⟩)))
            | (go_at_call 10; (first | (with_reducible refine (hW _).mono ?_; rintro e w3 ⟨rfl, hb3⟩) | (with_reducible refine (hWy _).mono ?_; rintro e w4 ⟨rfl, hb4⟩))))
          )
        all_goals
          go_ret
          exact ⟨rfl, bel4 hb1 hb2 hb3 hb5⟩
      · go_enter Try.func5, Try.ntmps5
        go_wp2_with (
          (first
            | (go_at_call 9; (with_reducible refine (awake4_any _).mono ?_); rintro e w1 ⟨rfl, hb1⟩)
            | (go_at_call 12; (first | (with_reducible refine (hB _).mono ?_; rintro e w2 ⟨rfl, hb2⟩) | (with_reducible refine (hB2 _).mono ?_; rintro e w5 ⟨rfl, hb5⟩)))
            | (go_at_call 10; (first | (with_reducible refine (hW _).mono ?_; rintro e w3 ⟨rfl, hb3⟩) | (with_reducible refine (hWy _).mono ?_; rintro e w4 ⟨rfl, hb4⟩))))
          )
        all_goals
          go_ret
          exact ⟨rfl, bel4 hb1 hb2 hb3 hb5⟩
set_option maxRecDepth 100000 in
theorem odoHolds_lifted (os : Os) (started : os.Started) (H : Type) (enc : TypeId × Value → H) :
    ReturnsInHanded {} Try.checked os 5 .any (Rows.odoHoldsSpec.pre6 enc Try.prog Try.f5 Rows.odoHoldsRow.domain false) (Rows.odoHoldsSpec.post enc Try.prog Try.f5 false true false false) := by
  refine returnsInHanded_of_change (C := Try.checked) own started (by kernel_rfl) Try.func5
    (ChangeSpec.witness6 (enc := enc) (C := Try.checked) false ⟨#[], #[.float .f64 0, .float .f64 0, .float .f64 0], []⟩ 8 (by kernel_rfl) (by kernel_rfl) (by kernel_rfl) (by kernel_rfl)) ?_
  intro W base args ds gs before hval0 hW hcnd _
  have hval : ∀ (j : Nat) t v, Try.f5.params[j]? = some t → args[j]? = some v → Value.okWide Try.prog W .any base t v := hval0
  have hW' := hW
  obtain ⟨p, q, hA0, hV, rfl, hfz, hnd⟩ := hW
  have hA : DataW.TrodAll enc Try.prog W 0 (fun _ => true) true Try.f5.params.toList args.toList ds p := hA0
  rw [Try.params5] at hA hval
  obtain ⟨v0, vs0, d0, ds0, p0, q0, hargs, rfl, rfl, h0, r0⟩ := trodAll_cons hA
  obtain ⟨v1, vs1, d1, ds1, p1, q1, rfl, rfl, rfl, h1, r1⟩ := trodAll_cons r0
  obtain ⟨v2, vs2, d2, ds2, p2, q2, rfl, rfl, rfl, h2, r2⟩ := trodAll_cons r1
  obtain ⟨rfl, rfl, rfl⟩ := trodAll_nil r2
  obtain rfl : args = #[v0, v1, v2] := by cases args; simp_all
  obtain ⟨rfl, rfl⟩ := trodVars_none hV
  have k0 := h0
  have lt0 : ∀ x ∈ p0, x.block < W.heap.size := by obtain ⟨m, hm⟩ := k0; exact DataW.trod_lt m _ _ _ hm
  have k1 := h1
  have lt1 : ∀ x ∈ p1, x.block < W.heap.size := by obtain ⟨m, hm⟩ := k1; exact DataW.trod_lt m _ _ _ hm
  have k2 := h2
  have lt2 : ∀ x ∈ p2, x.block < W.heap.size := by obtain ⟨m, hm⟩ := k2; exact DataW.trod_lt m _ _ _ hm
  obtain ⟨a0, rfl, w0⟩ := open_f64 (hval 0 22 v0 rfl rfl) h0
  obtain ⟨a1, rfl, w1⟩ := open_f64 (hval 1 22 v1 rfl rfl) h1
  obtain ⟨a2, rfl, w2⟩ := open_f64 (hval 2 22 v2 rfl rfl) h2
  clear hA0 hval0
  refine (odoHolds_walk a0 a1 a2 W w0 w1 w2).mono fun e W' ⟨he, bel⟩ => ?_
  subst he
  exact ⟨_, rfl, _, _, _, [], _, [], hW', trodAll_mk1 (shut_bool Try.underlying4 _), (trodAll_cons_mk (Below.trod laidOut (by kernel_rfl) (of_decide_eq_true (by kernel_rfl)) k0 bel lt0) (trodAll_cons_mk (Below.trod laidOut (by kernel_rfl) (of_decide_eq_true (by kernel_rfl)) k1 bel lt1) (trodAll_cons_mk (Below.trod laidOut (by kernel_rfl) (of_decide_eq_true (by kernel_rfl)) k2 bel lt2) trodAll_mk0))), rfl, bel.frame _, fun h => by cases h⟩

theorem odoHolds_over : Rows.odoHoldsRow.holds Try.pinned (OpenSpec.ofChange Rows.odoHoldsSpec) :=
  OpenClaim.holds_of_wide 5 Try.f5 rfl rfl rfl rfl rfl rfl rfl ⟨rfl, rfl, rfl, rfl, rfl⟩ rfl rfl rfl rfl rfl (by kernel_rfl) Try.func5 (by kernel_rfl)
    (of_decide_eq_true (by kernel_rfl)) (by unfold Func.isWrapper; rw [if_neg (of_decide_eq_false (by kernel_rfl))]; exact ⟨rfl, rfl⟩)
    (fun os started H enc _ => odoHolds_lifted os started H enc)

/-- THE STATEMENT. -/
theorem odoHolds_holds : Rows.OdoHoldsSaid := odoHolds_over
end Go.Proofs.Ytoneofdihknnoaa
