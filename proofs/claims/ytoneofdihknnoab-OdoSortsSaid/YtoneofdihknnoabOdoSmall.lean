/- The small functions of package odo and of the document's: floating point operations as the walk meets them. -/
import Derived.Test.YtoneofdihknnoabProg
import Derived.Test.YtoneofdihknnoabFloat
import Derived.Laws.FloatArith
import Derived.WalkKit
import Derived.Below
import Derived.Deep.Draws
import Derived.Lib.Hide
import Derived.Laws.Externs
set_option linter.unusedSimpArgs false
set_option linter.unusedVariables false
namespace Go.Proofs.Ytoneofdihknnoab
open Go.RowKit Ieee

/-- A sum, difference, product or quotient: its word; or, where there is none, some NaN. -/
def Got (b : Option Nat) (r k : Nat) : Prop := (b = some r ∧ k = 0) ∨ (b = none ∧ isNan r = true ∧ k = 1)
theorem nan_bits (x y t : Nat) : isNan ((Question.nanBits .f64 x y).cut t) = true := by
  show isNan ((t % 2) * 2 ^ 63 + 0x7ff0000000000000 + 1 + (t / 2) % (2 ^ 52 - 1)) = true
  unfold isNan rung64 infR
  simp only [decide_eq_true_eq]
  have h := Nat.mod_lt (t / 2) (show 0 < 2 ^ 52 - 1 by decide)
  generalize t / 2 % (2 ^ 52 - 1) = q at *
  rcases Nat.mod_two_eq_zero_or_one t with e | e <;> rw [e] <;> omega
theorem float_op {P : Program} (op : BinOp) (hop : op = .add ∨ op = .sub ∨ op = .mul ∨ op = .quo) (x y : Nat) (w : World) : ∃ r k, (∀ t, (binOp op t (.float .f64 x) (.float .f64 y)).run P w = .ok (.float .f64 r) (w.drewN k)) ∧ Got (floatBits op .f64 x y) r k := by
  cases h : floatBits op .f64 x y with
  | some r => exact ⟨r, 0, fun t => run_float_arith w op t .f64 x y r h, .inl ⟨rfl, rfl⟩⟩
  | none =>
    refine ⟨_, 1, fun t => ?_, .inr ⟨rfl, nan_bits x y (w.tape w.drawn (.nanBits .f64 x y)), rfl⟩⟩
    unfold floatBits at h
    rcases hop with rfl | rfl | rfl | rfl <;> simp only at h <;> simp [binOp, Op.floatArith, h, Question.forced] <;> rfl
theorem rodnone_k (x : Nat) (w : World) : Calls Try.prog 20 #[.float .f64 x] w fun e w' => e = .returned (.bool (isNan x)) ∧ w = w' := by
  have h : FloatKind.f64.format.order x x = cmpK x x := order_is x x
  unfold cmpK at h
  cases hn : isNan x with
  | true =>
    rw [hn, if_pos (.inl rfl)] at h
    go_enter Try.func20, Try.ntmps20
    go_wp2
    go_ret
    exact ⟨rfl, rfl⟩
  | false =>
    rw [hn, if_neg (by simp), Int.compare_eq_eq.2 rfl] at h
    go_enter Try.func20, Try.ntmps20
    go_wp2
    go_ret
    exact ⟨rfl, rfl⟩
theorem integral_num (name : String) (way : Toward) (x : Nat) (s : Bool) (m : Nat) (p : Int) (hd : FloatKind.f64.decode x = .number s m p) : Extern.MathFloor.toIntegral name way #[.float .f64 x] = pure (.float .f64 (FloatKind.f64.encode ((Datum.number s m p).integral way))) := by
  delta Extern.MathFloor.toIntegral
  change (Extern.MathFloor.toIntegral.match_1 (fun _ => Sem Value) (FloatKind.f64.decode x) _ _) = _
  rw [hd]
theorem archfloor_run (x r : Nat) (s : Bool) (M : Nat) (h : (double.read x).integral .down = .number s M 0) (hr : double.nearest s M 0 = r) (hf : isFin x = true) (W : World) : (callFunc 30 #[.float .f64 x]).run Try.prog W = .ok (.value (.float .f64 r)) W := by
  rw [run_callFunc_extern (e := Extern.MathFloor.toIntegral "math.archFloor" .down) Try.func30 (by kernel_rfl) (by kernel_rfl) (by kernel_rfl) (by kernel_rfl)]
  obtain ⟨m, p, e, _, _⟩ := fin_read hf
  rw [e] at h
  rw [integral_num _ _ x _ m p e, h]
  have : FloatKind.f64.encode (.number s M 0) = r := hr
  rw [this]
  rfl
theorem archceil_run (x r : Nat) (s : Bool) (M : Nat) (h : (double.read x).integral .up = .number s M 0) (hr : double.nearest s M 0 = r) (hf : isFin x = true) (W : World) : (callFunc 32 #[.float .f64 x]).run Try.prog W = .ok (.value (.float .f64 r)) W := by
  rw [run_callFunc_extern (e := Extern.MathFloor.toIntegral "math.archCeil" .up) Try.func32 (by kernel_rfl) (by kernel_rfl) (by kernel_rfl) (by kernel_rfl)]
  obtain ⟨m, p, e, _, _⟩ := fin_read hf
  rw [e] at h
  rw [integral_num _ _ x _ m p e, h]
  have : FloatKind.f64.encode (.number s M 0) = r := hr
  rw [this]
  rfl
theorem floor_k (x : Nat) (w : World) (hf : isFin x = true) (hb : (floorK x).natAbs < 2 ^ 53) : Calls Try.prog 24 #[.float .f64 x] w fun e w' => ∃ r, e = .returned (.float .f64 r) ∧ isFin r = true ∧ key64 r = floorK x * U ∧ w = w' := by
  obtain ⟨s, M, h1, h2, h3⟩ := floor_word hf hb
  obtain ⟨r, hr⟩ : ∃ r, double.nearest s M 0 = r := ⟨_, rfl⟩
  have hrun := archfloor_run x r s M h1 hr hf
  rw [hr] at h2 h3
  clear h1 hr hb hf
  have h2 := Lib.hid h2
  have h3 := Lib.hid h3
  go_enter Try.func24, Try.ntmps24
  go_wp2
  refine bodyPost_ret (v := .float .f64 r) (by simp [results, Try.results24, go_sem]) rfl ⟨r, rfl, h3.out, h2.out, rfl⟩
theorem ceil_k (x : Nat) (w : World) (hf : isFin x = true) (hb : (ceilK x).natAbs < 2 ^ 53) : Calls Try.prog 25 #[.float .f64 x] w fun e w' => ∃ r, e = .returned (.float .f64 r) ∧ isFin r = true ∧ key64 r = ceilK x * U ∧ w = w' := by
  obtain ⟨s, M, h1, h2, h3⟩ := ceil_word hf hb
  obtain ⟨r, hr⟩ : ∃ r, double.nearest s M 0 = r := ⟨_, rfl⟩
  have hrun := archceil_run x r s M h1 hr hf
  rw [hr] at h2 h3
  clear h1 hr hb hf
  have h2 := Lib.hid h2
  have h3 := Lib.hid h3
  go_enter Try.func25, Try.ntmps25
  go_wp2
  refine bodyPost_ret (v := .float .f64 r) (by simp [results, Try.results25, go_sem]) rfl ⟨r, rfl, h3.out, h2.out, rfl⟩
/-- Beyond what a distance may be? -/
def T40 : Int := 2 ^ 40 * U
def withinB (y : Nat) : Bool := !isNan y && decide (-T40 ≤ key64 y) && decide (key64 y ≤ T40)
theorem key_lo : key64 14010698440749613056 = -T40 ∧ isNan 14010698440749613056 = false := by decide +kernel
theorem key_hi : key64 4787326403894837248 = T40 ∧ isNan 4787326403894837248 = false := by decide +kernel
theorem cmp_some (x y : Nat) (hx : isNan x = false) (hy : isNan y = false) : cmpK x y = some (compare (key64 x) (key64 y)) := by
  unfold cmpK; rw [if_neg (by simp [hx, hy])]
theorem cmp_none (x y : Nat) (hx : isNan x = true) : cmpK x y = none := by
  unfold cmpK; rw [if_pos (.inl hx)]
theorem odwithin_k (x : Nat) (w : World) : Calls Try.prog 23 #[.float .f64 x] w fun e w' => e = .returned (.bool (withinB x)) ∧ w = w' := by
  have h1 : FloatKind.f64.format.order x 14010698440749613056 = cmpK x 14010698440749613056 := order_is _ _
  have h2 : FloatKind.f64.format.order x 4787326403894837248 = cmpK x 4787326403894837248 := order_is _ _
  obtain ⟨b, hb⟩ : ∃ b, withinB x = b := ⟨_, rfl⟩
  rw [hb]
  cases hn : isNan x with
  | true =>
    rw [cmp_none _ _ hn] at h1 h2
    have : b = false := by rw [← hb]; unfold withinB; rw [hn]; rfl
    subst this
    go_enter Try.func23, Try.ntmps23
    go_wp2
    go_ret
    exact ⟨rfl, rfl⟩
  | false =>
    rw [cmp_some _ _ hn key_lo.2, key_lo.1] at h1
    rw [cmp_some _ _ hn key_hi.2, key_hi.1] at h2
    have hb' : b = (decide (-T40 ≤ key64 x) && decide (key64 x ≤ T40)) := by rw [← hb]; unfold withinB; rw [hn]; rfl
    clear hb hn
    generalize key64 x = kx at *
    generalize T40 = T at *
    by_cases hc : -T ≤ kx ∧ kx ≤ T
    · have hbt : b = true := by rw [hb', decide_eq_true hc.1, decide_eq_true hc.2]; rfl
      subst hbt
      clear hb'
      rcases Int.lt_trichotomy kx (-T) with g | g | g <;> rcases Int.lt_trichotomy kx T with g2 | g2 | g2 <;>
        first
          | (exfalso; omega)
          | ((first | rw [Int.compare_eq_lt.2 g] at h1 | rw [Int.compare_eq_eq.2 g] at h1 | rw [Int.compare_eq_gt.2 g] at h1)
             (first | rw [Int.compare_eq_lt.2 g2] at h2 | rw [Int.compare_eq_eq.2 g2] at h2 | rw [Int.compare_eq_gt.2 g2] at h2)
             clear g g2 hc
             go_enter Try.func23, Try.ntmps23
             go_wp2
             go_ret
             exact ⟨rfl, rfl⟩)
    · have hbt : b = false := by
        rw [hb', Bool.and_eq_false_iff, decide_eq_false_iff_not, decide_eq_false_iff_not]
        omega
      subst hbt
      clear hb'
      rcases Int.lt_trichotomy kx (-T) with g | g | g <;> rcases Int.lt_trichotomy kx T with g2 | g2 | g2 <;>
        first
          | (exfalso; omega)
          | ((first | rw [Int.compare_eq_lt.2 g] at h1 | rw [Int.compare_eq_eq.2 g] at h1 | rw [Int.compare_eq_gt.2 g] at h1)
             (first | rw [Int.compare_eq_lt.2 g2] at h2 | rw [Int.compare_eq_eq.2 g2] at h2 | rw [Int.compare_eq_gt.2 g2] at h2)
             clear g g2 hc
             go_enter Try.func23, Try.ntmps23
             go_wp2
             go_ret
             exact ⟨rfl, rfl⟩)
end Go.Proofs.Ytoneofdihknnoab
