/- Package odo, function by function: readings whole, between, in order. -/
import Derived.Test.YtoneofdihknnoabOdoSmall
set_option linter.unusedSimpArgs false
set_option linter.unusedVariables false
namespace Go.Proofs.Ytoneofdihknnoab
open Go.RowKit Ieee

def TEN : Nat := 4621819117588971520
def wholeOf (y : Option Nat) : Int × Int := match y with
  | some y => if withinB y = true then (floorK y, 0) else (0, 7)
  | none => (0, 7)
def wholeV (x : Nat) : Int × Int := if isNan x = true then (0, 40) else wholeOf (floatBits .mul .f64 x TEN)
theorem within_nan {y : Nat} (h : isNan y = true) : withinB y = false := by unfold withinB; rw [h]; rfl
theorem wholeOf_got {b : Option Nat} {y k : Nat} (h : Got b y k) : wholeOf b = if withinB y = true then (floorK y, 0) else (0, 7) := by
  rcases h with ⟨rfl, _⟩ | ⟨rfl, h, _⟩
  · rfl
  · rw [within_nan h]; rfl
theorem T40_big : T40 < big ∧ 0 < T40 := by decide +kernel
theorem within_fin {y : Nat} (h : withinB y = true) : isFin y = true ∧ (floorK y).natAbs ≤ 2 ^ 40 ∧ (ceilK y).natAbs ≤ 2 ^ 40 := by
  unfold withinB at h
  simp only [Bool.and_eq_true, Bool.not_eq_true', decide_eq_true_eq] at h
  obtain ⟨⟨h1, h2⟩, h3⟩ := h
  have hb := T40_big
  have hU : (0 : Int) < U := by exact_mod_cast U_pos
  refine ⟨key_fin h1 (by omega) (by omega), ?_, ?_⟩
  · have a : -2 ^ 40 ≤ floorK y := by
      unfold floorK
      rw [Int.le_ediv_iff_mul_le hU]
      unfold T40 at h2
      rw [Int.neg_mul]; exact h2
    have b : floorK y ≤ 2 ^ 40 := by
      unfold floorK
      have : key64 y / (U : Int) < 2 ^ 40 + 1 := by
        rw [Int.ediv_lt_iff_lt_mul hU]
        unfold T40 at h3
        rw [Int.add_mul]; omega
      omega
    omega
  · have a : -2 ^ 40 ≤ (-key64 y) / (U : Int) := by
      rw [Int.le_ediv_iff_mul_le hU]
      unfold T40 at h3
      rw [Int.neg_mul]; omega
    have b : (-key64 y) / (U : Int) < 2 ^ 40 + 1 := by
      rw [Int.ediv_lt_iff_lt_mul hU]
      unfold T40 at h2
      rw [Int.add_mul]; omega
    unfold ceilK
    omega
theorem toInt_whole {r : Nat} {n : Int} (hf : isFin r = true) (hk : key64 r = n * U) (hn : n.natAbs ≤ 2 ^ 40) : floatToIntVal .f64 r .i64 = some n := by
  unfold floatToIntVal
  have e : FloatKind.f64.decode r = double.read r := rfl
  rw [e, toInt_fin hf, hk]
  have : (n * (U : Int)).tdiv U = n := Int.mul_tdiv_cancel _ (by have := U_pos; omega)
  rw [this]
  show (if _ then _ else _) = _
  rw [if_pos]
  have h1 : IntKind.i64.min = -9223372036854775808 := rfl
  have h2 : IntKind.i64.max = 9223372036854775807 := rfl
  rw [h1, h2]
  omega
theorem conv_int {src dst : TypeId} {r : Nat} {n : Int} (hs : (Try.prog.underlying src).isSome = true) (hd : Try.prog.underlying dst = some (.int .i64)) (hf : isFin r = true) (hk : key64 r = n * U) (hn : n.natAbs ≤ 2 ^ 40) (w : World) : (convert src dst (.float .f64 r)).run Try.prog w = .ok (.int .i64 n) w :=
  run_convert_float_int w src dst .f64 .i64 r n hs hd (toInt_whole hf hk hn)
theorem odfloor_k (y : Nat) (w : World) (h : withinB y = true) : Calls Try.prog 24 #[.float .f64 y] w fun e w' => ∃ r, e = .returned (.float .f64 r) ∧ (∀ W, (convert 26 3 (.float .f64 r)).run Try.prog W = .ok (.int .i64 (floorK y)) W) ∧ w = w' := by
  obtain ⟨h1, h2, _⟩ := within_fin h
  refine (floor_k y w h1 (by omega)).mono ?_
  rintro e w' ⟨r, rfl, hf, hk, rfl⟩
  exact ⟨r, rfl, fun W => conv_int (by rw [Try.underlying26]; rfl) Try.underlying3 hf hk h2 W, rfl⟩
theorem odceil_k (y : Nat) (w : World) (h : withinB y = true) : Calls Try.prog 25 #[.float .f64 y] w fun e w' => ∃ r, e = .returned (.float .f64 r) ∧ (∀ W, (convert 26 3 (.float .f64 r)).run Try.prog W = .ok (.int .i64 (ceilK y)) W) ∧ w = w' := by
  obtain ⟨h1, _, h2⟩ := within_fin h
  refine (ceil_k y w h1 (by omega)).mono ?_
  rintro e w' ⟨r, rfl, hf, hk, rfl⟩
  exact ⟨r, rfl, fun W => conv_int (by rw [Try.underlying26]; rfl) Try.underlying3 hf hk h2 W, rfl⟩
theorem below_drew (w : World) (k : Nat) : Below w.heap.size w (w.drewN k) := ⟨rfl, rfl, rfl, Nat.le_refl _, fun _ _ => rfl⟩
theorem order_self (x : Nat) : FloatKind.f64.format.order x x = if isNan x = true then none else some .eq := by
  have h : FloatKind.f64.format.order x x = cmpK x x := order_is x x
  rw [h]
  unfold cmpK
  cases isNan x
  · rw [if_neg (by simp), Int.compare_eq_eq.2 rfl]; rfl
  · rfl
theorem odwhole_k (x : Nat) (w : World) : Calls Try.prog 13 #[.float .f64 x] w fun e w' => e = .returned (.tuple #[.int .i64 (wholeV x).1, .int .i64 (wholeV x).2]) ∧ Below w.heap.size w w' := by
  have hs := order_self x
  obtain ⟨y, k, hm, hg⟩ := float_op (P := Try.prog) .mul (by simp) x TEN w
  unfold TEN at hm
  have hw := wholeOf_got hg
  obtain ⟨p, hp⟩ : ∃ p, wholeV x = p := ⟨_, rfl⟩
  rw [hp]
  unfold wholeV at hp
  rw [hw] at hp
  clear hg hw
  have hbel := below_drew w k
  cases hn : isNan x with
  | true =>
    rw [hn] at hs hp
    obtain rfl : (0, 40) = p := hp
    clear hn
    go_enter Try.func13, Try.ntmps13
    go_wp2
    go_ret2
    exact ⟨rfl, hbel⟩
  | false =>
    rw [hn] at hs hp
    rw [if_neg Bool.false_ne_true] at hs hp
    have hin := fun W => odwithin_k y W
    cases hwi : withinB y with
    | true =>
      rw [hwi, if_pos rfl] at hp
      rw [hwi] at hin
      subst hp
      have hfl := fun W => odfloor_k y W hwi
      generalize floorK y = n at hfl ⊢
      clear hwi hn
      go_enter Try.func13, Try.ntmps13
      go_wp2_with (first
        | (go_at_call 23; (with_reducible refine (hin _).mono ?_); rintro e w1 ⟨rfl, rfl⟩)
        | (go_at_call 24; (with_reducible refine (hfl _).mono ?_); rintro e w1 ⟨r, rfl, hcv, rfl⟩))
      go_ret2
      exact ⟨rfl, hbel⟩
    | false =>
      rw [hwi, if_neg Bool.false_ne_true] at hp
      rw [hwi] at hin
      subst hp
      clear hwi hn
      go_enter Try.func13, Try.ntmps13
      go_wp2_with (go_at_call 23; (with_reducible refine (hin _).mono ?_); rintro e w1 ⟨rfl, rfl⟩)
      go_ret2
      exact ⟨rfl, hbel⟩
end Go.Proofs.Ytoneofdihknnoab
