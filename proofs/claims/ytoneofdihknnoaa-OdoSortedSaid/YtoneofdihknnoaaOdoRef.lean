/- The document's numbers: far, down, up, Whole, Between. -/
import Derived.Test.YtoneofdihknnoaaOdoBetween
set_option linter.unusedSimpArgs false
set_option linter.unusedVariables false
namespace Go.Proofs.Ytoneofdihknnoaa
open Go.RowKit Ieee

theorem rodfar_k (x : Nat) (w : World) : Calls Try.prog 23 #[.float .f64 x] w fun e w' => e = .returned (.bool (!withinB x)) ∧ w = w' := by
  have h1 : FloatKind.f64.format.order x 14010698440749613056 = cmpK x 14010698440749613056 := order_is _ _
  have h2 : FloatKind.f64.format.order x 4787326403894837248 = cmpK x 4787326403894837248 := order_is _ _
  have hno := fun W => rodnone_k x W
  obtain ⟨b, hb⟩ : ∃ b, withinB x = b := ⟨_, rfl⟩
  rw [hb]
  cases hn : isNan x with
  | true =>
    rw [hn] at hno
    rw [cmp_none _ _ hn] at h1 h2
    have : b = false := by rw [← hb]; unfold withinB; rw [hn]; rfl
    subst this
    clear hb hn
    go_enter Try.func23, Try.ntmps23
    go_wp2_with (go_at_call 22; (with_reducible refine (hno _).mono ?_); rintro e w1 ⟨rfl, rfl⟩)
    go_ret
    exact ⟨rfl, rfl⟩
  | false =>
    rw [hn] at hno
    rw [cmp_some _ _ hn key_lo.2, key_lo.1] at h1
    rw [cmp_some _ _ hn key_hi.2, key_hi.1] at h2
    have hb' : b = (decide (-T40 ≤ key64 x) && decide (key64 x ≤ T40)) := by rw [← hb]; unfold withinB; rw [hn]; rfl
    clear hb hn
    generalize key64 x = kx at *
    generalize T40 = T at *
    by_cases hc : -T ≤ kx ∧ kx ≤ T
    · have hbt : b = true := by rw [hb', decide_eq_true hc.1, decide_eq_true hc.2]; rfl
      subst hbt
      clear hb'
      rcases Int.lt_trichotomy kx (-T) with g | g | g <;> rcases Int.lt_trichotomy kx T with g2 | g2 | g2 <;>
        first
          | (exfalso; omega)
          | ((first | rw [Int.compare_eq_lt.2 g] at h1 | rw [Int.compare_eq_eq.2 g] at h1 | rw [Int.compare_eq_gt.2 g] at h1)
             (first | rw [Int.compare_eq_lt.2 g2] at h2 | rw [Int.compare_eq_eq.2 g2] at h2 | rw [Int.compare_eq_gt.2 g2] at h2)
             clear g g2 hc
             go_enter Try.func23, Try.ntmps23
             go_wp2_with (go_at_call 22; (with_reducible refine (hno _).mono ?_); rintro e w1 ⟨rfl, rfl⟩)
             go_ret
             exact ⟨rfl, rfl⟩)
    · have hbt : b = false := by
        rw [hb', Bool.and_eq_false_iff, decide_eq_false_iff_not, decide_eq_false_iff_not]
        omega
      subst hbt
      clear hb'
      rcases Int.lt_trichotomy kx (-T) with g | g | g <;> rcases Int.lt_trichotomy kx T with g2 | g2 | g2 <;>
        first
          | (exfalso; omega)
          | ((first | rw [Int.compare_eq_lt.2 g] at h1 | rw [Int.compare_eq_eq.2 g] at h1 | rw [Int.compare_eq_gt.2 g] at h1)
             (first | rw [Int.compare_eq_lt.2 g2] at h2 | rw [Int.compare_eq_eq.2 g2] at h2 | rw [Int.compare_eq_gt.2 g2] at h2)
             clear g g2 hc
             go_enter Try.func23, Try.ntmps23
             go_wp2_with (go_at_call 22; (with_reducible refine (hno _).mono ?_); rintro e w1 ⟨rfl, rfl⟩)
             go_ret
             exact ⟨rfl, rfl⟩)
/-- A number cut towards zero. -/
def cutK (y : Nat) : Int := (key64 y).tdiv U
theorem tdiv_abs (a b : Int) (hb : 0 < b) : (0 ≤ a → a.tdiv b = a / b) ∧ (a < 0 → a.tdiv b = -((-a) / b)) := by
  constructor
  · intro h; rw [Int.tdiv_eq_ediv_of_nonneg h]
  · intro h
    have : a = -(-a) := by omega
    rw [this, Int.neg_tdiv, Int.tdiv_eq_ediv_of_nonneg (by omega), Int.neg_neg]
theorem cut_floor (y : Nat) : floorK y = (if key64 y < cutK y * U then cutK y - 1 else cutK y) ∧ ceilK y = (if cutK y * U < key64 y then cutK y + 1 else cutK y) := by
  have hU : (0 : Int) < U := by exact_mod_cast U_pos
  obtain ⟨h1, h2⟩ := tdiv_abs (key64 y) U hU
  unfold floorK ceilK cutK
  generalize key64 y = k at *
  have e1 := Int.mul_ediv_add_emod k U
  have e2 := Int.emod_nonneg k (show (U : Int) ≠ 0 by omega)
  have e3 := Int.emod_lt_of_pos k hU
  have f1 := Int.mul_ediv_add_emod (-k) U
  have f2 := Int.emod_nonneg (-k) (show (U : Int) ≠ 0 by omega)
  have f3 := Int.emod_lt_of_pos (-k) hU
  by_cases hk : 0 ≤ k
  · rw [h1 hk]
    constructor
    · rw [if_neg (by rw [Int.mul_comm]; omega)]
    · by_cases hr : k % U = 0
      · rw [if_neg (by rw [Int.mul_comm]; omega)]
        have : (-k) / (U : Int) = -(k / U) := ediv_uniq _ _ _ hU (by rw [Int.neg_mul, Int.mul_comm]; omega) (by rw [Int.add_mul, Int.neg_mul, Int.mul_comm (k / U)]; omega)
        rw [this]; omega
      · rw [if_pos (by rw [Int.mul_comm]; omega)]
        have : (-k) / (U : Int) = -(k / U) - 1 := ediv_uniq _ _ _ hU (by rw [Int.sub_mul, Int.neg_mul, Int.mul_comm (k / U)]; omega) (by rw [Int.add_mul, Int.sub_mul, Int.neg_mul, Int.mul_comm (k / U)]; omega)
        rw [this]; omega
  · rw [h2 (by omega)]
    constructor
    · by_cases hr : (-k) % U = 0
      · rw [if_neg (by rw [Int.neg_mul, Int.mul_comm]; omega)]
        exact ediv_uniq _ _ _ hU (by rw [Int.neg_mul, Int.mul_comm]; omega) (by rw [Int.add_mul, Int.neg_mul, Int.mul_comm ((-k) / U)]; omega)
      · rw [if_pos (by rw [Int.neg_mul, Int.mul_comm]; omega)]
        exact ediv_uniq _ _ _ hU (by rw [Int.sub_mul, Int.neg_mul, Int.mul_comm ((-k) / U)]; omega) (by rw [Int.add_mul, Int.sub_mul, Int.neg_mul, Int.mul_comm ((-k) / U)]; omega)
    · rw [if_neg (by rw [Int.neg_mul, Int.mul_comm]; omega)]
theorem cut_run (y : Nat) (h : withinB y = true) : floatToIntVal .f64 y .i64 = some (cutK y) ∧ (cutK y).natAbs ≤ 2 ^ 40 := by
  obtain ⟨hf, h1, h2⟩ := within_fin h
  obtain ⟨c1, c2⟩ := cut_floor y
  have hb : (cutK y).natAbs ≤ 2 ^ 40 := by
    rw [c1] at h1
    rw [c2] at h2
    split at h1 <;> split at h2 <;> omega
  refine ⟨?_, hb⟩
  unfold floatToIntVal
  have e : FloatKind.f64.decode y = double.read y := rfl
  rw [e, toInt_fin hf]
  show (if _ then _ else _) = _
  have e2 : (key64 y).tdiv U = cutK y := rfl
  rw [e2, if_pos]
  have h1 : IntKind.i64.min = -9223372036854775808 := rfl
  have h2 : IntKind.i64.max = 9223372036854775807 := rfl
  rw [h1, h2]
  omega
theorem conv_float (n : Int) (w : World) : (convert 3 22 (.int .i64 n)).run Try.prog w = .ok (.float .f64 (double.nearest (n < 0) n.natAbs 0)) w := by
  simp [convert, run_underlying Try.underlying3, run_underlying Try.underlying22, Conv.intToFloat]
  rfl
theorem whole_cmp (n : Int) (y : Nat) (hn : n.natAbs ≤ 2 ^ 40) (hy : isFin y = true) : FloatKind.f64.format.order (double.nearest (n < 0) n.natAbs 0) y = some (compare (n * U) (key64 y)) := by
  obtain ⟨k, f⟩ := nearest_int n (by omega)
  have : FloatKind.f64.format.order (double.nearest (n < 0) n.natAbs 0) y = cmpK (double.nearest (n < 0) n.natAbs 0) y := order_is _ _
  rw [this, cmp_some _ _ (fin_nan f) (fin_nan hy), k]
theorem roddown_k (y : Nat) (w : World) (h : withinB y = true) : Calls Try.prog 24 #[.float .f64 y] w fun e w' => e = .returned (.int .i64 (floorK y)) ∧ w = w' := by
  obtain ⟨hc, hb⟩ := cut_run y h
  have hcv := fun W => run_convert_float_int (P := Try.prog) W 22 3 .f64 .i64 y _ (by rw [Try.underlying22]; rfl) Try.underlying3 hc
  have hcf := fun W => conv_float (cutK y) W
  have ho := whole_cmp (cutK y) y hb (within_fin h).1
  have hfl := (cut_floor y).1
  clear hc h
  generalize double.nearest _ _ 0 = f at *
  generalize cutK y = n at *
  generalize key64 y = k at *
  have b1 : -1099511627776 ≤ n := by omega
  have b2 : n ≤ 1099511627776 := by omega
  clear hb
  rcases Int.lt_trichotomy (n * U) k with g | g | g
  · rw [Int.compare_eq_lt.2 g] at ho
    first | rw [if_neg (by omega)] at hfl | rw [if_pos (by omega)] at hfl
    rw [hfl]
    clear g hfl
    go_enter Try.func24, Try.ntmps24
    go_wp2
    go_ret
    exact ⟨rfl, rfl⟩
  · rw [Int.compare_eq_eq.2 g] at ho
    rw [if_neg (by omega)] at hfl
    rw [hfl]
    clear g hfl
    go_enter Try.func24, Try.ntmps24
    go_wp2
    go_ret
    exact ⟨rfl, rfl⟩
  · rw [Int.compare_eq_gt.2 g] at ho
    first | rw [if_neg (by omega)] at hfl | rw [if_pos (by omega)] at hfl
    rw [hfl]
    clear g hfl
    go_enter Try.func24, Try.ntmps24
    go_wp2
    go_ret
    exact ⟨rfl, rfl⟩
theorem rodup_k (y : Nat) (w : World) (h : withinB y = true) : Calls Try.prog 26 #[.float .f64 y] w fun e w' => e = .returned (.int .i64 (ceilK y)) ∧ w = w' := by
  obtain ⟨hc, hb⟩ := cut_run y h
  have hcv := fun W => run_convert_float_int (P := Try.prog) W 22 3 .f64 .i64 y _ (by rw [Try.underlying22]; rfl) Try.underlying3 hc
  have hcf := fun W => conv_float (cutK y) W
  have ho := whole_cmp (cutK y) y hb (within_fin h).1
  have hfl := (cut_floor y).2
  clear hc h
  generalize double.nearest _ _ 0 = f at *
  generalize cutK y = n at *
  generalize key64 y = k at *
  have b1 : -1099511627776 ≤ n := by omega
  have b2 : n ≤ 1099511627776 := by omega
  clear hb
  rcases Int.lt_trichotomy (n * U) k with g | g | g
  · rw [Int.compare_eq_lt.2 g] at ho
    first | rw [if_neg (by omega)] at hfl | rw [if_pos (by omega)] at hfl
    rw [hfl]
    clear g hfl
    go_enter Try.func26, Try.ntmps26
    go_wp2
    go_ret
    exact ⟨rfl, rfl⟩
  · rw [Int.compare_eq_eq.2 g] at ho
    rw [if_neg (by omega)] at hfl
    rw [hfl]
    clear g hfl
    go_enter Try.func26, Try.ntmps26
    go_wp2
    go_ret
    exact ⟨rfl, rfl⟩
  · rw [Int.compare_eq_gt.2 g] at ho
    first | rw [if_neg (by omega)] at hfl | rw [if_pos (by omega)] at hfl
    rw [hfl]
    clear g hfl
    go_enter Try.func26, Try.ntmps26
    go_wp2
    go_ret
    exact ⟨rfl, rfl⟩
end Go.Proofs.Ytoneofdihknnoaa
