/- How readings stand: rank, order, Less, Same; the document's. -/
import Derived.Test.YtoneofdihknnoabOdoRef2
import Derived.IntWalk
set_option linter.unusedSimpArgs false
set_option linter.unusedVariables false
namespace Go.Proofs.Ytoneofdihknnoab
open Go.RowKit Ieee

def rankV (x : Nat) : Int := if isNan x = true then 2 else if key64 x = 0 ∧ neg64 x = true then -1 else 0
def orderV (a b : Nat) : Int := if FloatKind.f64.format.order a b = some .lt then -1 else if FloatKind.f64.format.order a b = some .gt then 1 else rankV a - rankV b
/-- Where a reading stands among all. -/
def placeV (x : Nat) : Int := if isNan x = true then 4 * big else 2 * key64 x + rankV x
theorem rank_bounds (x : Nat) : -1 ≤ rankV x ∧ rankV x ≤ 2 := by unfold rankV; split; decide; split <;> decide
theorem key_bounds (x : Nat) (h : isNan x = false) : -big ≤ key64 x ∧ key64 x ≤ big := by
  have hr : rung64 x ≤ infR := by simpa [isNan] using h
  have hv : (valR (rung64 x) : Int) ≤ valR infR := by exact_mod_cast valR_le hr
  have h0 : (0 : Int) ≤ valR (rung64 x) := Int.natCast_nonneg _
  unfold key64 big
  split <;> omega
theorem big_pos : 0 < big := by have := T40_big; omega
theorem order_place (a b : Nat) : (orderV a b < 0 ↔ placeV a < placeV b) ∧ (orderV a b = 0 ↔ placeV a = placeV b) := by
  have h : FloatKind.f64.format.order a b = cmpK a b := order_is _ _
  unfold orderV placeV
  rw [h]
  have hbp := big_pos
  by_cases ha : isNan a = true
  · have ra : rankV a = 2 := by unfold rankV; rw [if_pos ha]
    rw [cmp_none _ _ ha, if_pos ha, if_neg (by simp), if_neg (by simp), ra]
    by_cases hb : isNan b = true
    · have rb : rankV b = 2 := by unfold rankV; rw [if_pos hb]
      rw [if_pos hb, rb]; omega
    · obtain ⟨b1, b2⟩ := key_bounds b (by simpa using hb)
      have rb : rankV b = -1 ∨ rankV b = 0 := by unfold rankV; rw [if_neg hb]; split <;> simp
      rw [if_neg hb]; omega
  · obtain ⟨a1, a2⟩ := key_bounds a (by simpa using ha)
    have ra : (rankV a = -1 ∧ key64 a = 0) ∨ rankV a = 0 := by unfold rankV; rw [if_neg ha]; split <;> simp_all
    by_cases hb : isNan b = true
    · have rb : rankV b = 2 := by unfold rankV; rw [if_pos hb]
      have : cmpK a b = none := by unfold cmpK; rw [if_pos (.inr hb)]
      rw [this, if_neg (by simp), if_neg (by simp), if_neg ha, if_pos hb, rb]; omega
    · obtain ⟨b1, b2⟩ := key_bounds b (by simpa using hb)
      have rb : (rankV b = -1 ∧ key64 b = 0) ∨ rankV b = 0 := by unfold rankV; rw [if_neg hb]; split <;> simp_all
      rw [cmp_some _ _ (by simpa using ha) (by simpa using hb), if_neg ha, if_neg hb]
      rcases Int.lt_trichotomy (key64 a) (key64 b) with g | g | g
      · rw [Int.compare_eq_lt.2 g, if_pos rfl]; omega
      · rw [Int.compare_eq_eq.2 g, if_neg (by simp), if_neg (by simp)]; omega
      · rw [Int.compare_eq_gt.2 g, if_neg (by simp), if_pos rfl]; omega
theorem bits_run (x : Nat) (W : World) : (callFunc 41 #[.float .f64 x]).run Try.prog W = .ok (.value (.int .u64 x)) W := by
  rw [run_callFunc_extern (e := Extern.MathFloatBits.float64bits) Try.func41 (by kernel_rfl) (by kernel_rfl) (by kernel_rfl) (by kernel_rfl)]
  rfl
theorem signbit_k (x : Nat) (w : World) (hx : x < 2 ^ 64) : Calls Try.prog 36 #[.float .f64 x] w fun e w' => e = .returned (.bool (neg64 x)) ∧ w = w' := by
  have hb := bits_run x
  have hcv : ∀ W, (convert 50 2 (.int .u64 x)).run Try.prog W = .ok (.int .i64 (if x < 2 ^ 63 then (x : Int) else (x : Int) - 2 ^ 64)) W := fun W => by
    have e : IntKind.i64.wrap (x : Int) = if x < 2 ^ 63 then (x : Int) else (x : Int) - 2 ^ 64 := by
      rw [IntKind.wrap_i64]
      split <;> omega
    simp [convert, run_underlying Try.underlying50, run_underlying Try.underlying2, Conv.intToInt, e]
  by_cases h : x < 2 ^ 63
  · have hn : neg64 x = false := by unfold neg64; rw [Nat.div_eq_of_lt h]; rfl
    have hd : decide ((x : Int) < 0) = false := by simp
    rw [hn]
    simp only [if_pos h] at hcv
    clear h hn hx
    go_enter Try.func36, Try.ntmps36
    go_wp2
    go_ret
    exact ⟨rfl, rfl⟩
  · have hn : neg64 x = true := by unfold neg64; have : x / 2 ^ 63 = 1 := by omega
                                   rw [this]; rfl
    rw [hn]
    obtain ⟨z, hz⟩ : ∃ z, (x : Int) - 2 ^ 64 = z := ⟨_, rfl⟩
    simp only [if_neg h, hz] at hcv
    have hz0 : z < 0 := by omega
    have hd : decide (z < 0) = true := decide_eq_true hz0
    clear h hn hx hz
    go_enter Try.func36, Try.ntmps36
    go_wp2
    go_ret
    exact ⟨rfl, rfl⟩
theorem zero_key : key64 0 = 0 ∧ isNan 0 = false := by decide +kernel
theorem odrank_k (x : Nat) (w : World) (hx : x < 2 ^ 64) : Calls Try.prog 27 #[.float .f64 x] w fun e w' => e = .returned (.int .i64 (rankV x)) ∧ w = w' := by
  have hs := order_self x
  have hz : FloatKind.f64.format.order x 0 = cmpK x 0 := order_is _ _
  have hsb := fun W => signbit_k x W hx
  clear hx
  obtain ⟨v, hv⟩ : ∃ v, rankV x = v := ⟨_, rfl⟩
  rw [hv]
  unfold rankV at hv
  cases hn : isNan x with
  | true =>
    rw [hn] at hs hv
    rw [if_pos rfl] at hv hs
    rw [cmp_none _ _ hn] at hz
    subst hv
    clear hn
    go_enter Try.func27, Try.ntmps27
    go_wp2
    go_ret
    exact ⟨rfl, rfl⟩
  | false =>
    rw [hn] at hs hv
    rw [if_neg Bool.false_ne_true] at hs hv
    rw [cmp_some _ _ hn zero_key.2, zero_key.1] at hz
    clear hn
    generalize key64 x = k at *
    generalize neg64 x = s at *
    rcases Int.lt_trichotomy k 0 with g | g | g
    · rw [Int.compare_eq_lt.2 g] at hz
      rw [if_neg (by omega)] at hv
      subst hv
      clear g
      go_enter Try.func27, Try.ntmps27
      go_wp2
      go_ret
      exact ⟨rfl, rfl⟩
    · rw [Int.compare_eq_eq.2 g] at hz
      cases s with
      | true =>
        rw [if_pos ⟨g, rfl⟩] at hv
        subst hv
        clear g
        go_enter Try.func27, Try.ntmps27
        go_wp2_with (go_at_call 36; (with_reducible refine (hsb _).mono ?_); rintro e w1 ⟨rfl, rfl⟩)
        go_ret
        exact ⟨rfl, rfl⟩
      | false =>
        rw [if_neg (by simp)] at hv
        subst hv
        clear g
        go_enter Try.func27, Try.ntmps27
        go_wp2_with (go_at_call 36; (with_reducible refine (hsb _).mono ?_); rintro e w1 ⟨rfl, rfl⟩)
        go_ret
        exact ⟨rfl, rfl⟩
    · rw [Int.compare_eq_gt.2 g] at hz
      rw [if_neg (by omega)] at hv
      subst hv
      clear g
      go_enter Try.func27, Try.ntmps27
      go_wp2
      go_ret
      exact ⟨rfl, rfl⟩
theorem odorder_k (a b : Nat) (w : World) (ha : a < 2 ^ 64) (hb : b < 2 ^ 64) : Calls Try.prog 18 #[.float .f64 a, .float .f64 b] w fun e w' => e = .returned (.int .i64 (orderV a b)) ∧ w = w' := by
  have hra := fun W => odrank_k a W ha
  have hrb := fun W => odrank_k b W hb
  obtain ⟨a1, a2⟩ := rank_bounds a
  obtain ⟨b1, b2⟩ := rank_bounds b
  clear ha hb
  unfold orderV
  cases ho : FloatKind.f64.format.order a b with
  | none =>
    rw [if_neg (by simp), if_neg (by simp)]
    generalize rankV a = ra at *
    generalize rankV b = rb at *
    go_enter Try.func18, Try.ntmps18
    go_wp2_with (go_at_call 27; (first | (with_reducible refine (hra _).mono ?_) | (with_reducible refine (hrb _).mono ?_)); rintro e w1 ⟨rfl, rfl⟩)
    go_ret
    exact ⟨rfl, rfl⟩
  | some o =>
    cases o with
    | lt =>
      rw [if_pos rfl]
      go_enter Try.func18, Try.ntmps18
      go_wp2
      go_ret
      exact ⟨rfl, rfl⟩
    | gt =>
      rw [if_neg (by simp), if_pos rfl]
      go_enter Try.func18, Try.ntmps18
      go_wp2
      go_ret
      exact ⟨rfl, rfl⟩
    | eq =>
      rw [if_neg (by simp), if_neg (by simp)]
      generalize rankV a = ra at *
      generalize rankV b = rb at *
      go_enter Try.func18, Try.ntmps18
      go_wp2_with (go_at_call 27; (first | (with_reducible refine (hra _).mono ?_) | (with_reducible refine (hrb _).mono ?_)); rintro e w1 ⟨rfl, rfl⟩)
      go_ret
      exact ⟨rfl, rfl⟩
theorem odless_k (a b : Nat) (w : World) (ha : a < 2 ^ 64) (hb : b < 2 ^ 64) : Calls Try.prog 15 #[.float .f64 a, .float .f64 b] w fun e w' => e = .returned (.bool (decide (placeV a < placeV b))) ∧ w = w' := by
  have hro := fun W => odorder_k a b W ha hb
  have he : decide (orderV a b < 0) = decide (placeV a < placeV b) := decide_eq_decide.2 (order_place a b).1
  generalize decide (placeV a < placeV b) = d at *
  generalize orderV a b = o at *
  subst he
  clear ha hb
  go_enter Try.func15, Try.ntmps15
  go_wp2_with (go_at_call 18; (with_reducible refine (hro _).mono ?_); rintro e w1 ⟨rfl, rfl⟩)
  go_ret
  exact ⟨rfl, rfl⟩
/-- The document's: is it the zero below nought? -/
def belowV (x : Nat) : Bool := decide (key64 x = 0) && neg64 x && !isNan x
theorem one_key : double.read 4607182418800017408 = .number false (2 ^ 52) (-52) := by decide +kernel
theorem valR_nz {r : Nat} (h : valR r = 0) : r = 0 := by
  rcases Nat.eq_zero_or_pos r with e | e
  · exact e
  · have := valR_lt e; rw [valR_zero] at this; omega
theorem key_zero {x : Nat} (h : key64 x = 0) : rung64 x = 0 := by
  unfold key64 at h
  apply valR_nz
  split at h <;> omega
theorem inv_zero (x : Nat) (h : key64 x = 0) : ∃ r, floatBits .quo .f64 4607182418800017408 x = some r ∧ isNan r = false ∧ (key64 r < 0 ↔ neg64 x = true) := by
  have hr := key_zero h
  refine ⟨double.word (neg64 x) infR, ?_, ?_, ?_⟩
  · show double.div 4607182418800017408 x = _
    unfold Format.div
    have e : double.read x = .number (neg64 x) 0 (-1074) := by
      rw [read_of, hr]; rfl
    rw [e, one_key]
    show some (double.word (false ^^ neg64 x) infR) = _
    rw [Bool.false_xor]
  · exact (key_word _ _ (Nat.le_refl _)).2
  · rw [(key_word _ _ (Nat.le_refl _)).1]
    have := big_pos
    unfold big at this
    cases neg64 x
    · simp only [Bool.false_eq_true, if_false, iff_false]; omega
    · simp only [if_true, iff_true]; omega
theorem cmp_zero (x : Nat) : FloatKind.f64.format.order x 0 = if isNan x = true then none else some (compare (key64 x) 0) := by
  have h : FloatKind.f64.format.order x 0 = cmpK x 0 := order_is _ _
  rw [h]
  by_cases hn : isNan x = true
  · rw [cmp_none _ _ hn, if_pos hn]
  · rw [cmp_some _ _ (by simpa using hn) zero_key.2, zero_key.1, if_neg hn]
theorem rodbelow_k (x : Nat) (w : World) : Calls Try.prog 28 #[.float .f64 x] w fun e w' => e = .returned (.bool (belowV x)) ∧ Below w.heap.size w w' := by
  have hz := cmp_zero x
  obtain ⟨v, hv⟩ : ∃ v, belowV x = v := ⟨_, rfl⟩
  rw [hv]
  unfold belowV at hv
  have hbe := Below.refl w.heap.size w
  cases hn : isNan x with
  | true =>
    rw [hn, if_pos rfl] at hz
    rw [hn] at hv
    obtain rfl : false = v := by rw [← hv]; simp
    clear hn hv
    go_enter Try.func28, Try.ntmps28
    go_wp2
    go_ret
    exact ⟨rfl, hbe⟩
  | false =>
    rw [hn, if_neg Bool.false_ne_true] at hz
    rw [hn] at hv
    rcases Int.lt_trichotomy (key64 x) 0 with g | g | g
    · rw [Int.compare_eq_lt.2 g] at hz
      obtain rfl : false = v := by rw [← hv, decide_eq_false (show ¬ key64 x = 0 by omega)]; rfl
      clear hn hv g
      go_enter Try.func28, Try.ntmps28
      go_wp2
      go_ret
      exact ⟨rfl, hbe⟩
    · rw [Int.compare_eq_eq.2 g] at hz
      obtain ⟨r, hr, hrn, hrk⟩ := inv_zero x g
      have hq := fun W t => run_float_arith (P := Try.prog) W .quo t .f64 4607182418800017408 x r hr
      have hz2 := cmp_zero r
      rw [hrn, if_neg Bool.false_ne_true] at hz2
      rw [decide_eq_true g] at hv
      cases hs : neg64 x with
      | true =>
        rw [Int.compare_eq_lt.2 (hrk.2 hs)] at hz2
        rw [hs] at hv
        obtain rfl : true = v := hv
        clear hn g hr hrn hrk hs
        go_enter Try.func28, Try.ntmps28
        go_wp2
        go_ret
        exact ⟨rfl, hbe⟩
      | false =>
        rw [hs] at hv
        obtain rfl : false = v := hv
        have hk : ¬ key64 r < 0 := fun e => by rw [hrk.1 e] at hs; cases hs
        clear hn g hr hrn hrk hs
        rcases Int.lt_trichotomy (key64 r) 0 with g | g | g
        · exact absurd g hk
        · rw [Int.compare_eq_eq.2 g] at hz2
          clear g hk
          go_enter Try.func28, Try.ntmps28
          go_wp2
          go_ret
          exact ⟨rfl, hbe⟩
        · rw [Int.compare_eq_gt.2 g] at hz2
          clear g hk
          go_enter Try.func28, Try.ntmps28
          go_wp2
          go_ret
          exact ⟨rfl, hbe⟩
    · rw [Int.compare_eq_gt.2 g] at hz
      obtain rfl : false = v := by rw [← hv, decide_eq_false (show ¬ key64 x = 0 by omega)]; rfl
      clear hn hv g
      go_enter Try.func28, Try.ntmps28
      go_wp2
      go_ret
      exact ⟨rfl, hbe⟩
end Go.Proofs.Ytoneofdihknnoab
