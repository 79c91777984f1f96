/- Package odo: Between; the document's Whole and Between. -/
import Derived.Test.YtoneofdihknnoabOdoFun
set_option linter.unusedSimpArgs false
set_option linter.unusedVariables false
namespace Go.Proofs.Ytoneofdihknnoab
open Go.RowKit Ieee

def betweenOf (lo hi : Option Nat) : Int × Int × Int := match lo, hi with
  | some lo, some hi => if withinB lo = true ∧ withinB hi = true then (floorK lo, ceilK hi, 0) else (0, 0, 7)
  | _, _ => (0, 0, 7)
def ltB (a b : Nat) : Bool := FloatKind.f64.format.order a b == some .lt
def betweenV (x off : Nat) : Int × Int × Int := if isNan x = true ∨ isNan off = true ∨ ltB off 0 = true then (0, 0, 40) else betweenOf ((floatBits .sub .f64 x off).bind (floatBits .mul .f64 · TEN)) ((floatBits .add .f64 x off).bind (floatBits .mul .f64 · TEN))
theorem mul_nan (x y : Nat) (h : isNan x = true) : floatBits .mul .f64 x y = none := by
  show double.mul x y = none
  unfold Format.mul
  rw [read_nan x h]
  rfl
theorem bind_got {b : Option Nat} {r k y j : Nat} (h1 : Got b r k) (h2 : Got (floatBits .mul .f64 r TEN) y j) : Got (b.bind (floatBits .mul .f64 · TEN)) y (if (b.bind (floatBits .mul .f64 · TEN)).isSome then 0 else 1) := by
  rcases h1 with ⟨rfl, _⟩ | ⟨rfl, h, _⟩
  · show Got (floatBits .mul .f64 r TEN) y (if (floatBits .mul .f64 r TEN).isSome then 0 else 1)
    rcases h2 with ⟨e, _⟩ | ⟨e, h, _⟩
    · rw [e]; exact .inl ⟨rfl, rfl⟩
    · rw [e]; exact .inr ⟨rfl, h, rfl⟩
  · rw [mul_nan r TEN h] at h2
    rcases h2 with ⟨e, _⟩ | ⟨_, h, _⟩
    · cases e
    · exact .inr ⟨rfl, h, rfl⟩
theorem betweenOf_got {b c : Option Nat} {y z j k : Nat} (h1 : Got b y j) (h2 : Got c z k) : betweenOf b c = if withinB y = true ∧ withinB z = true then (floorK y, ceilK z, 0) else (0, 0, 7) := by
  rcases h1 with ⟨rfl, _⟩ | ⟨rfl, h, _⟩
  · rcases h2 with ⟨rfl, _⟩ | ⟨rfl, h, _⟩
    · rfl
    · rw [within_nan h, if_neg (by simp)]; rfl
  · rw [within_nan h, if_neg (by simp)]; rfl
theorem odbetween_k (x off : Nat) (w : World) : Calls Try.prog 14 #[.float .f64 x, .float .f64 off] w fun e w' => e = .returned (.tuple #[.int .i64 (betweenV x off).1, .int .i64 (betweenV x off).2.1, .int .i64 (betweenV x off).2.2]) ∧ Below w.heap.size w w' := by
  have hs := order_self x
  have ho := order_self off
  have hz : (FloatKind.f64.format.order off 0 == some .lt) = ltB off 0 := rfl
  obtain ⟨p, k1, hp, g1⟩ := float_op (P := Try.prog) .sub (by simp) x off w
  obtain ⟨y, k2, hy, g2⟩ := float_op (P := Try.prog) .mul (by simp) p TEN (w.drewN k1)
  obtain ⟨q, k3, hq, g3⟩ := float_op (P := Try.prog) .add (by simp) x off (w.drewN (k1 + k2))
  obtain ⟨z, k4, hzz, g4⟩ := float_op (P := Try.prog) .mul (by simp) q TEN (w.drewN (k1 + k2 + k3))
  unfold TEN at hy hzz
  simp only [World.drewN_drewN] at hy hq hzz
  have hw := betweenOf_got (bind_got g1 g2) (bind_got g3 g4)
  obtain ⟨v, hv⟩ : ∃ v, betweenV x off = v := ⟨_, rfl⟩
  rw [hv]
  unfold betweenV at hv
  rw [hw] at hv
  clear hw g1 g2 g3 g4
  have hbel := below_drew w (k1 + k2 + k3 + k4)
  generalize ltB off 0 = lt at *
  cases hn : isNan x with
  | true =>
    rw [hn] at hs hv
    obtain rfl : (0, 0, 40) = v := by rw [← hv, if_pos (.inl rfl)]
    clear hn hv
    go_enter Try.func14, Try.ntmps14
    go_wp2
    exact bodyPost_ret (v := .tuple #[.int .i64 0, .int .i64 0, .int .i64 40]) (by simp [results, Try.results14, go_sem]) rfl ⟨rfl, hbel⟩
  | false =>
    rw [hn] at hs hv
    rw [if_neg Bool.false_ne_true] at hs
    cases hm : isNan off with
    | true =>
      rw [hm] at ho hv
      obtain rfl : (0, 0, 40) = v := by rw [← hv, if_pos (.inr (.inl rfl))]
      clear hn hm hv
      go_enter Try.func14, Try.ntmps14
      go_wp2
      exact bodyPost_ret (v := .tuple #[.int .i64 0, .int .i64 0, .int .i64 40]) (by simp [results, Try.results14, go_sem]) rfl ⟨rfl, hbel⟩
    | false =>
      rw [hm] at ho hv
      rw [if_neg Bool.false_ne_true] at ho
      cases lt with
      | true =>
        obtain rfl : (0, 0, 40) = v := by rw [← hv, if_pos (.inr (.inr rfl))]
        clear hn hm hv
        go_enter Try.func14, Try.ntmps14
        go_wp2
        all_goals
          exact bodyPost_ret (v := .tuple #[.int .i64 0, .int .i64 0, .int .i64 40]) (by simp [results, Try.results14, go_sem]) rfl ⟨rfl, hbel⟩
      | false =>
        rw [if_neg (by simp)] at hv
        cases hwy : withinB y <;> cases hwz : withinB z
        · rw [hwy, if_neg (by simp)] at hv
          subst hv
          clear hn hm
          go_enter Try.func14, Try.ntmps14
          go_wp2_with (
            (first
              | (go_at_call 23; (with_reducible refine (odwithin_k _ _).mono ?_); rintro e w1 ⟨rfl, rfl⟩)
              | (go_at_call 24; (with_reducible refine (hfl _).mono ?_); rintro e w1 ⟨r, rfl, hcv, rfl⟩)
              | (go_at_call 25; (with_reducible refine (hce _).mono ?_); rintro e w1 ⟨r2, rfl, hcv2, rfl⟩))
            )
          exact bodyPost_ret (v := .tuple #[.int .i64 0, .int .i64 0, .int .i64 7]) (by simp [results, Try.results14, go_sem]) rfl ⟨rfl, hbel⟩
        · rw [hwy, if_neg (by simp)] at hv
          subst hv
          clear hn hm
          go_enter Try.func14, Try.ntmps14
          go_wp2_with (
            (first
              | (go_at_call 23; (with_reducible refine (odwithin_k _ _).mono ?_); rintro e w1 ⟨rfl, rfl⟩)
              | (go_at_call 24; (with_reducible refine (hfl _).mono ?_); rintro e w1 ⟨r, rfl, hcv, rfl⟩)
              | (go_at_call 25; (with_reducible refine (hce _).mono ?_); rintro e w1 ⟨r2, rfl, hcv2, rfl⟩))
            )
          exact bodyPost_ret (v := .tuple #[.int .i64 0, .int .i64 0, .int .i64 7]) (by simp [results, Try.results14, go_sem]) rfl ⟨rfl, hbel⟩
        · rw [hwy, hwz, if_neg (by simp)] at hv
          subst hv
          clear hn hm
          go_enter Try.func14, Try.ntmps14
          go_wp2_with (
            (first
              | (go_at_call 23; (with_reducible refine (odwithin_k _ _).mono ?_); rintro e w1 ⟨rfl, rfl⟩)
              | (go_at_call 24; (with_reducible refine (hfl _).mono ?_); rintro e w1 ⟨r, rfl, hcv, rfl⟩)
              | (go_at_call 25; (with_reducible refine (hce _).mono ?_); rintro e w1 ⟨r2, rfl, hcv2, rfl⟩))
            )
          exact bodyPost_ret (v := .tuple #[.int .i64 0, .int .i64 0, .int .i64 7]) (by simp [results, Try.results14, go_sem]) rfl ⟨rfl, hbel⟩
        · rw [hwy, hwz, if_pos ⟨rfl, rfl⟩] at hv
          subst hv
          have hfl := fun W => odfloor_k y W hwy
          have hce := fun W => odceil_k z W hwz
          generalize floorK y = n at hfl ⊢
          generalize ceilK z = n2 at hce ⊢
          clear hn hm
          go_enter Try.func14, Try.ntmps14
          go_wp2_with (
            (first
              | (go_at_call 23; (with_reducible refine (odwithin_k _ _).mono ?_); rintro e w1 ⟨rfl, rfl⟩)
              | (go_at_call 24; (with_reducible refine (hfl _).mono ?_); rintro e w1 ⟨r, rfl, hcv, rfl⟩)
              | (go_at_call 25; (with_reducible refine (hce _).mono ?_); rintro e w1 ⟨r2, rfl, hcv2, rfl⟩))
            )
          exact bodyPost_ret (v := .tuple #[.int .i64 n, .int .i64 n2, .int .i64 0]) (by simp [results, Try.results14, go_sem]) rfl ⟨rfl, hbel⟩
end Go.Proofs.Ytoneofdihknnoab
