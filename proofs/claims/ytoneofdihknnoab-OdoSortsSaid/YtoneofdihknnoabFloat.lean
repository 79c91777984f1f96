/- Numbers with a floating point (of 64 bits), in plain Lean: where a word stands on the line of whole units; sums, products, halves, comparisons, whole parts. -/
import Ieee.Arith
namespace Go.Proofs.Ytoneofdihknnoab
open Ieee

/-- The bits of a rung (double): its value in units of the least place. -/
def valR (r : Nat) : Nat := if r < 2 ^ 52 then r else (2 ^ 52 + r % 2 ^ 52) * 2 ^ (r / 2 ^ 52 - 1)
theorem valR_step (r : Nat) : valR r < valR (r + 1) := by
  unfold valR
  by_cases h1 : r + 1 < 2 ^ 52
  · rw [if_pos (by omega), if_pos h1]; omega
  · by_cases h2 : r < 2 ^ 52
    · have e : r + 1 = 2 ^ 52 := by omega
      rw [if_pos h2, if_neg h1, e]
      simp; omega
    · rw [if_neg h2, if_neg h1]
      by_cases h3 : (r + 1) % 2 ^ 52 = 0
      · have e1 : (r + 1) / 2 ^ 52 = r / 2 ^ 52 + 1 := by omega
        have e2 : r % 2 ^ 52 = 2 ^ 52 - 1 := by omega
        have e3 : r / 2 ^ 52 + 1 - 1 = (r / 2 ^ 52 - 1) + 1 := by omega
        rw [h3, e1, e2, e3, Nat.pow_succ (n := 2) (m := r / 2 ^ 52 - 1), Nat.add_zero, Nat.mul_comm (2 ^ (r / 2 ^ 52 - 1)) 2, ← Nat.mul_assoc]
        exact Nat.mul_lt_mul_of_pos_right (by decide) (Nat.pow_pos (by decide))
      · have e1 : (r + 1) / 2 ^ 52 = r / 2 ^ 52 := by omega
        have e2 : (r + 1) % 2 ^ 52 = r % 2 ^ 52 + 1 := by omega
        rw [e1, e2]
        exact Nat.mul_lt_mul_of_pos_right (by omega) (Nat.pow_pos (by decide))
theorem valR_lt {a b : Nat} (h : a < b) : valR a < valR b := by
  induction b with
  | zero => omega
  | succ b ih =>
    by_cases e : a = b
    · subst e; exact valR_step a
    · exact Nat.lt_trans (ih (by omega)) (valR_step b)
theorem valR_le {a b : Nat} (h : a ≤ b) : valR a ≤ valR b := by
  by_cases e : a = b
  · subst e; exact Nat.le_refl _
  · exact Nat.le_of_lt (valR_lt (by omega))
theorem valR_inj {a b : Nat} (h : valR a = valR b) : a = b := by
  rcases Nat.lt_trichotomy a b with g | g | g
  · have := valR_lt g; omega
  · exact g
  · have := valR_lt g; omega
theorem valR_zero : valR 0 = 0 := by decide
def infR : Nat := 2047 * 2 ^ 52
def neg64 (x : Nat) : Bool := x / 2 ^ 63 % 2 == 1
def rung64 (x : Nat) : Nat := x % 2 ^ 63
def isNan (x : Nat) : Bool := decide (infR < rung64 x)
/-- Where a number stands, in units of the least place; an infinity beyond all others. -/
def key64 (x : Nat) : Int := if neg64 x then -(valR (rung64 x) : Int) else valR (rung64 x)
theorem read_of (x : Nat) : double.read x = if rung64 x < 2 ^ 52 then .number (neg64 x) (rung64 x) (-1074) else if rung64 x < infR then .number (neg64 x) (2 ^ 52 + rung64 x % 2 ^ 52) (-1074 + (rung64 x / 2 ^ 52 - 1 : Nat)) else if rung64 x = infR then .infinity (neg64 x) else .nan (neg64 x) (rung64 x - infR) := by
  rfl
/-- A datum's place as such a number of units. -/
def keyD (d : Datum) : Int := match d with
  | .number s m p => signed s m (p + 1074).toNat
  | .infinity s => if s then -(valR infR : Int) else valR infR
  | .nan _ _ => 0
def okD (d : Datum) : Prop := match d with
  | .number _ m p => -1074 ≤ p ∧ (signed false m (p + 1074).toNat) < valR infR
  | _ => True
theorem signed_false (m k : Nat) : signed false m k = (m * 2 ^ k : Nat) := by unfold signed; rw [if_neg (by decide), Nat.shiftLeft_eq]
theorem signed_true (m k : Nat) : signed true m k = -((m * 2 ^ k : Nat) : Int) := by unfold signed; rw [if_pos rfl, Nat.shiftLeft_eq]
theorem keyD_read (x : Nat) (h : isNan x = false) : keyD (double.read x) = key64 x ∧ okD (double.read x) ∧ (∀ s f, double.read x ≠ .nan s f) := by
  have hr : rung64 x ≤ infR := by simpa [isNan] using h
  rw [read_of]
  unfold key64
  have main : ∀ (s : Bool) (r : Nat), r ≤ infR → keyD (if r < 2 ^ 52 then .number s r (-1074) else if r < infR then .number s (2 ^ 52 + r % 2 ^ 52) (-1074 + (r / 2 ^ 52 - 1 : Nat)) else if r = infR then .infinity s else .nan s (r - infR)) = (if s then -(valR r : Int) else valR r) ∧ okD (if r < 2 ^ 52 then .number s r (-1074) else if r < infR then .number s (2 ^ 52 + r % 2 ^ 52) (-1074 + (r / 2 ^ 52 - 1 : Nat)) else if r = infR then .infinity s else .nan s (r - infR)) ∧ (∀ s' f, (if r < 2 ^ 52 then Datum.number s r (-1074) else if r < infR then .number s (2 ^ 52 + r % 2 ^ 52) (-1074 + (r / 2 ^ 52 - 1 : Nat)) else if r = infR then .infinity s else .nan s (r - infR)) ≠ .nan s' f) := by
    intro s r hr
    by_cases h1 : r < 2 ^ 52
    · rw [if_pos h1]
      have e : valR r = r := by unfold valR; rw [if_pos h1]
      have hv : valR r < valR infR := valR_lt (by unfold infR; omega)
      refine ⟨?_, ⟨by decide, ?_⟩, by intro _ _ e; cases e⟩
      · cases s <;> simp [keyD, signed, e]
      · rw [signed_false]; simp; omega
    · rw [if_neg h1]
      by_cases h2 : r < infR
      · rw [if_pos h2]
        have e : valR r = (2 ^ 52 + r % 2 ^ 52) * 2 ^ (r / 2 ^ 52 - 1) := by unfold valR; rw [if_neg h1]
        have e2 : ((-1074 : Int) + (r / 2 ^ 52 - 1 : Nat) + 1074).toNat = r / 2 ^ 52 - 1 := by omega
        have hv := valR_lt h2
        refine ⟨?_, ⟨by omega, ?_⟩, by intro _ _ e; cases e⟩
        · show signed s _ _ = _
          rw [e2]
          cases s
          · rw [signed_false, e]; rfl
          · rw [signed_true, e]; rfl
        · rw [e2, signed_false, ← e]; exact_mod_cast hv
      · rw [if_neg h2]
        have : r = infR := by omega
        subst this
        rw [if_pos rfl]
        exact ⟨rfl, trivial, by intro _ _ e; cases e⟩
  exact main _ _ hr
theorem read_nan (x : Nat) (h : isNan x = true) : double.read x = .nan (neg64 x) (rung64 x - infR) := by
  have hr : infR < rung64 x := by simpa [isNan] using h
  rw [read_of]
  rw [if_neg (by unfold infR at hr; omega), if_neg (by omega), if_neg (by omega)]
/-- To the nearest, between two the even one. -/
def rne (n g : Nat) : Nat := n / g + (if g < 2 * (n % g) ∨ (2 * (n % g) = g ∧ n / g % 2 = 1) then 1 else 0)
theorem rne_scale (n g c : Nat) (hc : 0 < c) : rne (n * c) (g * c) = rne n g := by
  unfold rne
  rw [Nat.mul_div_mul_right _ _ hc, Nat.mul_mod_mul_right]
  have e1 : (g * c < 2 * (n % g * c)) ↔ (g < 2 * (n % g)) := by
    rw [← Nat.mul_assoc]
    exact Nat.mul_lt_mul_right hc
  have e2 : (2 * (n % g * c) = g * c) ↔ (2 * (n % g) = g) := by
    rw [← Nat.mul_assoc]
    exact Nat.mul_left_inj (by omega)
  simp only [e1, e2]
theorem rne_mono (a b g : Nat) (hg : 0 < g) (h : a ≤ b) : rne a g ≤ rne b g := by
  unfold rne
  have h1 := Nat.div_le_div_right (c := g) h
  have ha := Nat.div_add_mod a g
  have hb := Nat.div_add_mod b g
  have la := Nat.mod_lt a hg
  have lb := Nat.mod_lt b hg
  by_cases e : a / g = b / g
  · rw [e] at ha ⊢
    have hm : a % g ≤ b % g := by omega
    split <;> split <;> omega
  · split <;> split <;> omega
theorem rne_lo (n g : Nat) : n / g ≤ rne n g := by unfold rne; omega
theorem rne_hi (n g : Nat) : rne n g ≤ n / g + 1 := by unfold rne; split <;> omega
theorem rne_exact (n g : Nat) (hg : 0 < g) : rne (n * g) g = n := by
  unfold rne
  rw [Nat.mul_div_cancel _ hg, Nat.mul_mod_left]
  rw [if_neg (by omega)]
  rfl
theorem cut_even (s : Bool) (n drop : Nat) : Toward.even.cut s n drop = rne n (2 ^ drop) := by
  have key : ∀ d, Toward.even.cut s n drop = rne n (2 ^ d) → rne n (2 ^ d) = rne n (2 ^ drop) → Toward.even.cut s n drop = rne n (2 ^ drop) := fun _ a b => a.trans b
  refine key (min drop (n.log2 + 2)) ?_ ?_
  · unfold Toward.cut rne
    simp only [Nat.shiftLeft_eq, Nat.one_mul]
    congr 1
    generalize 2 ^ min drop (n.log2 + 2) = g
    by_cases h1 : g < 2 * (n % g)
    · simp [h1]
    · by_cases h2 : 2 * (n % g) = g
      · have h3 : (g == 2 * (n % g)) = true := by simp [h2]
        by_cases h4 : n / g % 2 = 1
        · simp [h2, h4]
        · simp [h2, h4]
      · have h3 : (g == 2 * (n % g)) = false := by simp; omega
        simp [h1, h2, h3]
  · by_cases h : drop ≤ n.log2 + 2
    · rw [Nat.min_eq_left h]
    · rw [Nat.min_eq_right (by omega)]
      have hn : n < 2 ^ (n.log2 + 1) := Nat.lt_log2_self
      have z : ∀ d, n.log2 + 2 ≤ d → rne n (2 ^ d) = 0 := by
        intro d hd
        have h1 : 2 ^ (n.log2 + 2) ≤ 2 ^ d := Nat.pow_le_pow_right (by decide) hd
        have h2 : 2 ^ (n.log2 + 2) = 2 * 2 ^ (n.log2 + 1) := by rw [Nat.pow_succ 2 (n.log2 + 1), Nat.mul_comm]
        unfold rne
        rw [Nat.div_eq_of_lt (by omega), Nat.mod_eq_of_lt (by omega), if_neg (by omega)]
      rw [z _ (Nat.le_refl _), z _ (by omega)]
/-- The place (above the 2148th) of the last digit that is kept. -/
def lastP (v : Nat) : Nat := max (v.log2 - 52) 1074
/-- The rung of v units of the 2148th place. -/
def rungV (v : Nat) : Nat := (lastP v - 1074) * 2 ^ 52 + rne v (2 ^ lastP v)
theorem log2_mono {a b : Nat} (h : a ≤ b) : a.log2 ≤ b.log2 := by
  by_cases h0 : a = 0
  · subst h0; simp
  · exact (Nat.le_log2 (by omega)).2 (Nat.le_trans (Nat.log2_self_le h0) h)
theorem rungV_mono {a b : Nat} (h : a ≤ b) : rungV a ≤ rungV b := by
  have hl := log2_mono h
  have hL : lastP a ≤ lastP b := by unfold lastP; omega
  unfold rungV
  by_cases e : lastP a = lastP b
  · rw [e]
    exact Nat.add_le_add_left (rne_mono a b _ (Nat.pow_pos (by decide)) h) _
  · have hb : lastP b = b.log2 - 52 ∧ 1074 < lastP b := by unfold lastP at *; omega
    have hb0 : b ≠ 0 := by intro e0; subst e0; simp at hb; omega
    have h1 : 2 ^ 52 ≤ b / 2 ^ lastP b := by
      rw [Nat.le_div_iff_mul_le (Nat.pow_pos (by decide)), ← Nat.pow_add]
      refine Nat.le_trans (Nat.pow_le_pow_right (by decide) ?_) (Nat.log2_self_le hb0)
      omega
    have h2 := rne_lo b (2 ^ lastP b)
    have h3 : a / 2 ^ lastP a < 2 ^ 53 := by
      rw [Nat.div_lt_iff_lt_mul (Nat.pow_pos (by decide)), ← Nat.pow_add]
      refine Nat.lt_of_lt_of_le (Nat.lt_log2_self (n := a)) (Nat.pow_le_pow_right (by decide) ?_)
      unfold lastP; omega
    have h4 := rne_hi a (2 ^ lastP a)
    have h5 : lastP a - 1074 + 1 ≤ lastP b - 1074 := by
      have : 1074 ≤ lastP a := by unfold lastP; omega
      omega
    have h6 := Nat.mul_le_mul_right (2 ^ 52) h5
    rw [Nat.add_mul] at h6
    omega
theorem log2_mul_pow (m k : Nat) (hm : m ≠ 0) : (m * 2 ^ k).log2 = m.log2 + k := by
  have hp : m * 2 ^ k ≠ 0 := by have := Nat.pow_pos (n := k) (show 0 < 2 by decide); have := Nat.mul_pos (Nat.pos_of_ne_zero hm) this; omega
  rw [Nat.log2_eq_iff hp]
  have h1 := Nat.log2_self_le hm
  have h2 := Nat.lt_log2_self (n := m)
  constructor
  · rw [Nat.pow_add]; exact Nat.mul_le_mul_right _ h1
  · rw [show m.log2 + k + 1 = (m.log2 + 1) + k by omega, Nat.pow_add]
    exact Nat.mul_lt_mul_of_pos_right h2 (Nat.pow_pos (by decide))
/-- One, in units of the least place. -/
def uE : Nat := 1074
theorem uE_eq : uE = 1074 := rfl
def U : Nat := 2 ^ uE
theorem U_pos : 0 < U := Nat.pow_pos (by decide)
theorem rungV_val (r : Nat) : rungV (valR r * U) = r := by
  have hE := uE_eq
  by_cases h : r < 2 ^ 53
  · have hv : valR r = r := by
      unfold valR
      by_cases h1 : r < 2 ^ 52
      · rw [if_pos h1]
      · rw [if_neg h1]
        have e1 : r / 2 ^ 52 = 1 := by omega
        have e2 : 2 ^ 52 + r % 2 ^ 52 = r := by omega
        rw [e1, e2]; simp
    rw [hv]
    have hL : lastP (r * U) = uE := by
      unfold lastP
      by_cases h0 : r = 0
      · subst h0
        rw [Nat.zero_mul, hE]; rfl
      · show max ((r * 2 ^ uE).log2 - 52) 1074 = uE
        rw [log2_mul_pow r uE h0]
        have : r.log2 < 53 := (Nat.log2_lt h0).2 h
        omega
    unfold rungV
    rw [hL]
    show (uE - 1074) * 2 ^ 52 + rne (r * 2 ^ uE) (2 ^ uE) = r
    rw [rne_exact _ _ (Nat.pow_pos (by decide)), hE]
    omega
  · have hv : valR r = (2 ^ 52 + r % 2 ^ 52) * 2 ^ (r / 2 ^ 52 - 1) := by unfold valR; rw [if_neg (by omega)]
    rw [hv]
    show rungV ((2 ^ 52 + r % 2 ^ 52) * 2 ^ (r / 2 ^ 52 - 1) * 2 ^ uE) = r
    rw [Nat.mul_assoc, ← Nat.pow_add]
    have hf0 : 2 ^ 52 + r % 2 ^ 52 ≠ 0 := by omega
    have hlog : (2 ^ 52 + r % 2 ^ 52).log2 = 52 := by
      rw [Nat.log2_eq_iff hf0]; omega
    have hL : lastP ((2 ^ 52 + r % 2 ^ 52) * 2 ^ (r / 2 ^ 52 - 1 + uE)) = r / 2 ^ 52 - 1 + uE := by
      unfold lastP
      rw [log2_mul_pow _ _ hf0, hlog]
      omega
    unfold rungV
    rw [hL, rne_exact _ _ (Nat.pow_pos (by decide))]
    omega
/-- The key of a number of units of the 2148th place, rounded. -/
def rnd (z : Int) : Int := if z < 0 then -(valR (min (rungV z.natAbs) infR) : Int) else valR (min (rungV z.natAbs) infR)
theorem rungV_zero : rungV 0 = 0 := by
  have := rungV_val 0
  rw [valR_zero, Nat.zero_mul] at this
  exact this
theorem rnd_mono {a b : Int} (h : a ≤ b) : rnd a ≤ rnd b := by
  have mono : ∀ {x y : Nat}, x ≤ y → (valR (min (rungV x) infR) : Int) ≤ valR (min (rungV y) infR) := by
    intro x y hxy
    have := valR_le (a := min (rungV x) infR) (b := min (rungV y) infR) (by have := rungV_mono hxy; omega)
    exact_mod_cast this
  unfold rnd
  by_cases ha : a < 0 <;> by_cases hb : b < 0
  · rw [if_pos ha, if_pos hb]
    have := mono (x := b.natAbs) (y := a.natAbs) (by omega)
    omega
  · rw [if_pos ha, if_neg hb]
    omega
  · omega
  · rw [if_neg ha, if_neg hb]
    exact mono (by omega)
theorem rnd_key (r : Nat) (h : r ≤ infR) : rnd ((valR r : Int) * U) = valR r := by
  unfold rnd
  have e : ((valR r : Int) * U).natAbs = valR r * U := by rw [Int.natAbs_mul, Int.natAbs_natCast, Int.natAbs_natCast]
  have h0 : ¬ ((valR r : Int) * U < 0) := Int.not_lt.2 (Int.mul_nonneg (Int.natCast_nonneg _) (Int.natCast_nonneg _))
  rw [if_neg h0, e, rungV_val, Nat.min_eq_left h]
theorem rnd_neg (z : Int) : rnd (-z) = -rnd z := by
  unfold rnd
  by_cases h0 : z = 0
  · subst h0
    simp [rungV_zero, valR_zero]
  · by_cases h : z < 0
    · rw [if_neg (by omega), if_pos h, Int.natAbs_neg]; omega
    · rw [if_pos (by omega), if_neg h, Int.natAbs_neg]
theorem rnd_key64 (x : Nat) (h : isNan x = false) : rnd (key64 x * U) = key64 x := by
  have hr : rung64 x ≤ infR := by simpa [isNan] using h
  unfold key64
  split
  · rw [Int.neg_mul, rnd_neg, rnd_key _ hr]
  · exact rnd_key _ hr
/-- What stands written: a sign and a rung. -/
theorem word_neg (s : Bool) (r : Nat) (h : r < 2 ^ 63) : neg64 (double.word s r) = s ∧ rung64 (double.word s r) = r := by
  have e : double.word s r = if s then 2 ^ 63 + r else r := by
    unfold Format.word Format.signWeight; rfl
  rw [e]
  unfold neg64 rung64
  cases s
  · simp; omega
  · simp; omega
theorem infR_lt : infR < 2 ^ 63 := by decide
theorem key_word (s : Bool) (r : Nat) (h : r ≤ infR) : key64 (double.word s r) = (if s then -(valR r : Int) else valR r) ∧ isNan (double.word s r) = false := by
  obtain ⟨h1, h2⟩ := word_neg s r (by have := infR_lt; omega)
  unfold key64 isNan
  rw [h1, h2]
  exact ⟨rfl, by simp; omega⟩
/-- The rung that a number is rounded to. -/
theorem nearest_is (s : Bool) (m : Nat) (p : Int) (hp : -2148 ≤ p) : double.nearest s m p = double.word s (min (rungV (m * 2 ^ (p + 2148).toNat)) infR) := by
  unfold Format.nearest
  by_cases hm : m = 0
  · rw [if_pos hm, hm, Nat.zero_mul, rungV_zero]; rfl
  · rw [if_neg hm]
    show double.word s (min ((max (p + m.log2 - 52) (-1074) - (-1074)).toNat * 2 ^ 52 + Toward.even.cut s (m <<< (p - max (p + m.log2 - 52) (-1074)).toNat) (max (p + m.log2 - 52) (-1074) - p).toNat) infR) = _
    have hlog := log2_mul_pow m (p + 2148).toNat hm
    have hL : (lastP (m * 2 ^ (p + 2148).toNat) : Int) = max (p + m.log2 - 52) (-1074) + 2148 := by
      unfold lastP
      rw [hlog]
      omega
    have e1 : (max (p + m.log2 - 52) (-1074) - (-1074)).toNat = lastP (m * 2 ^ (p + 2148).toNat) - 1074 := by omega
    have e2 : Toward.even.cut s (m <<< (p - max (p + m.log2 - 52) (-1074)).toNat) (max (p + m.log2 - 52) (-1074) - p).toNat = rne (m * 2 ^ (p + 2148).toNat) (2 ^ lastP (m * 2 ^ (p + 2148).toNat)) := by
      rw [cut_even, Nat.shiftLeft_eq]
      generalize max (p + m.log2 - 52) (-1074) = last at *
      generalize lastP (m * 2 ^ (p + 2148).toNat) = L at *
      by_cases h : p ≤ last
      · have a1 : (p - last).toNat = 0 := by omega
        rw [a1, Nat.pow_zero, Nat.mul_one]
        have a2 : L = (last - p).toNat + (p + 2148).toNat := by omega
        rw [a2, Nat.pow_add]
        exact (rne_scale _ _ _ (Nat.pow_pos (by decide))).symm
      · have a1 : (last - p).toNat = 0 := by omega
        rw [a1]
        have a2 : (p + 2148).toNat = (p - last).toNat + L := by omega
        rw [a2, Nat.pow_add, ← Nat.mul_assoc]
        have := rne_scale (m * 2 ^ (p - last).toNat) (2 ^ 0) (2 ^ L) (Nat.pow_pos (by decide))
        rw [Nat.pow_zero, Nat.one_mul] at this
        exact this.symm
    rw [e1, e2]
    rfl
theorem key_nearest (s : Bool) (m : Nat) (p : Int) (hp : -2148 ≤ p) : key64 (double.nearest s m p) = rnd (signed s m (p + 2148).toNat) ∧ isNan (double.nearest s m p) = false := by
  rw [nearest_is s m p hp]
  obtain ⟨h1, h2⟩ := key_word s (min (rungV (m * 2 ^ (p + 2148).toNat)) infR) (Nat.min_le_right _ _)
  refine ⟨h1.trans ?_, h2⟩
  unfold rnd
  generalize hv : m * 2 ^ (p + 2148).toNat = v
  cases s
  · have h0 : ¬ ((v : Int) < 0) := by omega
    rw [signed_false, hv, if_neg h0, Int.natAbs_natCast, if_neg Bool.false_ne_true]
  · rw [signed_true, hv, if_pos rfl, Int.natAbs_neg, Int.natAbs_natCast]
    by_cases h0 : v = 0
    · subst h0
      rw [rungV_zero]; simp [valR_zero]
    · have h0' : -(v : Int) < 0 := by omega
      rw [if_pos h0']
/-- A number's datum. -/
theorem read_num (x : Nat) (h : isNan x = false) (hi : rung64 x ≠ infR) : ∃ m p, double.read x = .number (neg64 x) m p ∧ -1074 ≤ p ∧ signed (neg64 x) m (p + 1074).toNat = key64 x := by
  obtain ⟨h1, h2, h3⟩ := keyD_read x h
  have hr : rung64 x ≤ infR := by simpa [isNan] using h
  rw [read_of] at h1 h2 h3 ⊢
  by_cases a : rung64 x < 2 ^ 52
  · rw [if_pos a] at h1 h2 ⊢
    exact ⟨_, _, rfl, h2.1, h1⟩
  · rw [if_neg a] at h1 h2 ⊢
    rw [if_pos (by omega)] at h1 h2 ⊢
    exact ⟨_, _, rfl, h2.1, h1⟩
theorem read_inf (x : Nat) (hi : rung64 x = infR) : double.read x = .infinity (neg64 x) ∧ key64 x = if neg64 x then -(valR infR : Int) else valR infR := by
  rw [read_of]
  unfold key64
  rw [hi]
  rw [if_neg (by decide), if_neg (by omega), if_pos rfl]
  exact ⟨rfl, rfl⟩
theorem rnd_keyU (x : Nat) (h : isNan x = false) : rnd (key64 x * U) = key64 x := rnd_key64 x h
theorem signed_add (s : Bool) (m a b : Nat) : signed s m (a + b) = signed s m a * (2 ^ b : Nat) := by
  cases s
  · rw [signed_false, signed_false, Nat.pow_add, ← Nat.mul_assoc]; push_cast; rfl
  · rw [signed_true, signed_true, Nat.pow_add, ← Nat.mul_assoc, Int.neg_mul]; push_cast; rfl
theorem signed_U (s : Bool) (m a : Nat) : signed s m (a + 1074) = signed s m a * U := by
  show signed s m (a + uE) = signed s m a * ((2 ^ uE : Nat) : Int)
  exact signed_add s m a uE
theorem signed_natAbs (z : Int) (s : Bool) (k : Nat) (h : z ≠ 0 → s = decide (z < 0)) : signed s z.natAbs k = z * (2 ^ k : Nat) := by
  by_cases h0 : z = 0
  · subst h0
    cases s <;> simp [signed]
  · rw [h h0]
    by_cases hz : z < 0
    · rw [decide_eq_true hz, signed_true]
      have : (z.natAbs : Int) = -z := by omega
      push_cast
      rw [this, Int.neg_mul, Int.neg_neg]
    · rw [decide_eq_false hz, signed_false]
      have : (z.natAbs : Int) = z := by omega
      push_cast
      rw [this]
theorem signed_mul (s t : Bool) (m n a b : Nat) : signed (s ^^ t) (m * n) (a + b) = signed s m a * signed t n b := by
  have e : m * n * 2 ^ (a + b) = (m * 2 ^ a) * (n * 2 ^ b) := by rw [Nat.pow_add, Nat.mul_mul_mul_comm]
  cases s <;> cases t <;> simp only [Bool.xor_false, Bool.xor_true, Bool.not_false, Bool.not_true, signed_false, signed_true, e] <;> push_cast
  · rfl
  · rw [Int.mul_neg]
  · rw [Int.neg_mul]
  · rw [Int.neg_mul, Int.mul_neg, Int.neg_neg]
/-- Is a word a number (no NaN, no infinity)? -/
def isFin (x : Nat) : Bool := decide (rung64 x < infR)
theorem fin_nan {x : Nat} (h : isFin x = true) : isNan x = false := by
  simp only [isFin, isNan, decide_eq_true_eq, decide_eq_false_iff_not] at *; omega
theorem fin_read {x : Nat} (h : isFin x = true) : ∃ m p, double.read x = .number (neg64 x) m p ∧ -1074 ≤ p ∧ signed (neg64 x) m (p + 1074).toNat = key64 x :=
  read_num x (fin_nan h) (by simp only [isFin, decide_eq_true_eq] at h; omega)
def big : Int := valR infR
theorem fin_bounds {x : Nat} (h : isFin x = true) : -big < key64 x ∧ key64 x < big := by
  simp only [isFin, decide_eq_true_eq] at h
  have hv := valR_lt h
  have : (valR (rung64 x) : Int) < valR infR := by exact_mod_cast hv
  have h0 : (0 : Int) ≤ valR (rung64 x) := Int.natCast_nonneg _
  unfold key64 big
  split <;> omega
theorem key_fin {x : Nat} (h : isNan x = false) (h1 : -big < key64 x) (h2 : key64 x < big) : isFin x = true := by
  have hr : rung64 x ≤ infR := by simpa [isNan] using h
  simp only [isFin, decide_eq_true_eq]
  rcases Nat.lt_or_ge (rung64 x) infR with g | g
  · exact g
  · have e : rung64 x = infR := by omega
    unfold key64 at h1 h2
    rw [e] at h1 h2
    unfold big at h1 h2
    cases hs : neg64 x
    · rw [hs] at h1 h2; rw [if_neg Bool.false_ne_true] at h2; omega
    · rw [hs] at h1 h2; rw [if_pos rfl] at h1; omega
theorem rnd_write (s : Bool) (m : Nat) (p : Int) (z : Int) (hp : -2148 ≤ p) (h : signed s m (p + 2148).toNat = z) : ∀ r, (some (Datum.number s m p)).map double.write = some r → key64 r = rnd z ∧ isNan r = false := by
  intro r hr
  simp only [Option.map_some, Option.some.injEq] at hr
  rw [← hr]
  show key64 (double.nearest s m p) = _ ∧ isNan (double.nearest s m p) = _
  have := key_nearest s m p hp
  rw [h] at this
  exact this
theorem sum_fin (s t : Bool) (m n : Nat) (i j : Int) (hi : -1074 ≤ i) (hj : -1074 ≤ j) : ∃ r, ((Datum.number s m i).sum (Datum.number t n j)).map double.write = some r ∧ key64 r = rnd ((signed s m (i + 1074).toNat + signed t n (j + 1074).toNat) * U) ∧ isNan r = false := by
  have hb : (-1074 : Int) ≤ min i j := by omega
  refine ⟨_, rfl, ?_⟩
  refine rnd_write (if signed s m (i - min i j).toNat + signed t n (j - min i j).toNat = 0 then s && t else decide (signed s m (i - min i j).toNat + signed t n (j - min i j).toNat < 0)) _ (min i j) _ (by omega) ?_ _ rfl
  rw [signed_natAbs _ _ _ (fun h => by rw [if_neg h]), Int.add_mul, Int.add_mul, ← signed_add, ← signed_add, ← signed_U, ← signed_U]
  congr 2 <;> omega
theorem add_fin {x y : Nat} (hx : isFin x = true) (hy : isFin y = true) : ∃ r, double.add x y = some r ∧ key64 r = rnd ((key64 x + key64 y) * U) ∧ isNan r = false := by
  obtain ⟨m, i, e1, h1, k1⟩ := fin_read hx
  obtain ⟨n, j, e2, h2, k2⟩ := fin_read hy
  unfold Format.add
  rw [e1, e2, ← k1, ← k2]
  exact sum_fin _ _ _ _ _ _ h1 h2
theorem sub_fin {x y : Nat} (hx : isFin x = true) (hy : isFin y = true) : ∃ r, double.sub x y = some r ∧ key64 r = rnd ((key64 x - key64 y) * U) ∧ isNan r = false := by
  obtain ⟨m, i, e1, h1, k1⟩ := fin_read hx
  obtain ⟨n, j, e2, h2, k2⟩ := fin_read hy
  unfold Format.sub
  rw [e1, e2, ← k1, ← k2]
  obtain ⟨r, a, b, c⟩ := sum_fin (neg64 x) (!neg64 y) m n i j h1 h2
  refine ⟨r, a, ?_, c⟩
  rw [b]
  congr 2
  cases neg64 y
  · rw [Bool.not_false, signed_true, signed_false]; omega
  · rw [Bool.not_true, signed_true, signed_false]; omega
theorem mul_fin {x y : Nat} (hx : isFin x = true) (hy : isFin y = true) : ∃ r, double.mul x y = some r ∧ key64 r = rnd (key64 x * key64 y) ∧ isNan r = false := by
  obtain ⟨m, i, e1, h1, k1⟩ := fin_read hx
  obtain ⟨n, j, e2, h2, k2⟩ := fin_read hy
  unfold Format.mul
  rw [e1, e2, ← k1, ← k2]
  refine ⟨_, rfl, ?_⟩
  refine rnd_write (neg64 x ^^ neg64 y) (m * n) (i + j) _ (by omega) ?_ _ rfl
  rw [← signed_mul]
  congr 1; omega
/-- How two words stand. -/
def cmpK (x y : Nat) : Option Ordering := if isNan x = true ∨ isNan y = true then none else some (compare (key64 x) (key64 y))
theorem cmp_mul (a b c : Int) (hc : 0 < c) : compare (a * c) (b * c) = compare a b := by
  rcases Int.lt_trichotomy a b with h | h | h
  · have h2 := Int.mul_lt_mul_of_pos_right h hc
    rw [Int.compare_eq_lt.2 h, Int.compare_eq_lt.2 h2]
  · rw [h]; simp
  · have h2 := Int.mul_lt_mul_of_pos_right h hc
    rw [Int.compare_eq_gt.2 h, Int.compare_eq_gt.2 h2]
theorem order_is (x y : Nat) : double.order x y = cmpK x y := by
  unfold Format.order cmpK
  by_cases hx : isNan x = true
  · rw [if_pos (.inl hx), read_nan x hx]; rfl
  · replace hx : isNan x = false := by simpa using hx
    by_cases hy : isNan y = true
    · rw [if_pos (.inr hy), read_nan y hy]
      cases double.read x <;> rfl
    · replace hy : isNan y = false := by simpa using hy
      rw [if_neg (by simp [hx, hy])]
      have hrx : rung64 x ≤ infR := by simpa [isNan] using hx
      have hry : rung64 y ≤ infR := by simpa [isNan] using hy
      have hbig : (0 : Int) < valR infR := by
        have := valR_lt (a := 0) (b := infR) (by decide)
        rw [valR_zero] at this
        exact_mod_cast this
      by_cases fx : rung64 x = infR
      · obtain ⟨e1, k1⟩ := read_inf x fx
        rw [e1, k1]
        by_cases fy : rung64 y = infR
        · obtain ⟨e2, k2⟩ := read_inf y fy
          rw [e2, k2]
          show some (compare (neg64 y).toNat (neg64 x).toNat) = _
          congr 1
          cases neg64 x <;> cases neg64 y
          · exact (Int.compare_eq_eq.2 rfl).symm
          · simp only [Bool.toNat_true, Bool.toNat_false, if_true, Bool.false_eq_true, if_false]
            rw [Int.compare_eq_gt.2 (show -(valR infR : Int) < valR infR by omega)]; rfl
          · simp only [Bool.toNat_true, Bool.toNat_false, if_true, Bool.false_eq_true, if_false]
            rw [Int.compare_eq_lt.2 (show -(valR infR : Int) < valR infR by omega)]; rfl
          · exact (Int.compare_eq_eq.2 rfl).symm
        · have hf : isFin y = true := by simp only [isFin, decide_eq_true_eq]; omega
          obtain ⟨n, j, e2, _, _⟩ := fin_read hf
          obtain ⟨b1, b2⟩ := fin_bounds hf
          unfold big at b1 b2
          rw [e2]
          show some (if neg64 x = true then Ordering.lt else .gt) = _
          congr 1
          cases neg64 x
          · simp only [Bool.false_eq_true, if_false]
            exact (Int.compare_eq_gt.2 b2).symm
          · simp only [if_true]
            exact (Int.compare_eq_lt.2 b1).symm
      · have hf : isFin x = true := by simp only [isFin, decide_eq_true_eq]; omega
        obtain ⟨m, i, e1, h1, k1⟩ := fin_read hf
        obtain ⟨b1, b2⟩ := fin_bounds hf
        unfold big at b1 b2
        rw [e1]
        by_cases fy : rung64 y = infR
        · obtain ⟨e2, k2⟩ := read_inf y fy
          rw [e2, k2]
          show some (if neg64 y = true then Ordering.gt else .lt) = _
          congr 1
          cases neg64 y
          · simp only [Bool.false_eq_true, if_false]
            exact (Int.compare_eq_lt.2 b2).symm
          · simp only [if_true]
            exact (Int.compare_eq_gt.2 b1).symm
        · have hf2 : isFin y = true := by simp only [isFin, decide_eq_true_eq]; omega
          obtain ⟨n, j, e2, h2, k2⟩ := fin_read hf2
          rw [e2, ← k1, ← k2]
          show some (compare (signed (neg64 x) m (i - min i j).toNat) (signed (neg64 y) n (j - min i j).toNat)) = _
          congr 1
          have a1 : (i + 1074).toNat = (i - min i j).toNat + (min i j + 1074).toNat := by omega
          have a2 : (j + 1074).toNat = (j - min i j).toNat + (min i j + 1074).toNat := by omega
          rw [a1, a2, signed_add, signed_add, cmp_mul]
          exact Int.natCast_pos.2 (Nat.pow_pos (by decide))
/-- A number cut towards zero, down, up. -/
theorem min_cut (n drop : Nat) : n / 2 ^ min drop (n.log2 + 2) = n / 2 ^ drop ∧ (n % 2 ^ min drop (n.log2 + 2) = 0 ↔ n % 2 ^ drop = 0) := by
  by_cases h : drop ≤ n.log2 + 2
  · rw [Nat.min_eq_left h]; exact ⟨rfl, Iff.rfl⟩
  · rw [Nat.min_eq_right (by omega)]
    have hn : n < 2 ^ (n.log2 + 1) := Nat.lt_log2_self
    have h1 : 2 ^ (n.log2 + 1) ≤ 2 ^ (n.log2 + 2) := Nat.pow_le_pow_right (by decide) (by omega)
    have h2 : 2 ^ (n.log2 + 1) ≤ 2 ^ drop := Nat.pow_le_pow_right (by decide) (by omega)
    rw [Nat.div_eq_of_lt (by omega), Nat.div_eq_of_lt (by omega), Nat.mod_eq_of_lt (by omega), Nat.mod_eq_of_lt (by omega)]
    exact ⟨rfl, Iff.rfl⟩
theorem cut_zero (s : Bool) (n drop : Nat) : Toward.zero.cut s n drop = n / 2 ^ drop := by
  unfold Toward.cut
  simp only [Nat.shiftLeft_eq, Nat.one_mul, Bool.toNat_false, Nat.add_zero]
  exact (min_cut n drop).1
theorem cut_down (s : Bool) (n drop : Nat) : Toward.down.cut s n drop = n / 2 ^ drop + (if s = true ∧ n % 2 ^ drop ≠ 0 then 1 else 0) := by
  obtain ⟨h1, h2⟩ := min_cut n drop
  unfold Toward.cut
  simp only [Nat.shiftLeft_eq, Nat.one_mul]
  rw [h1]
  congr 1
  by_cases h : n % 2 ^ drop = 0
  · have := h2.2 h
    simp [h, this]
  · have : n % 2 ^ min drop (n.log2 + 2) ≠ 0 := fun e => h (h2.1 e)
    cases s <;> simp [h, this]
theorem cut_up (s : Bool) (n drop : Nat) : Toward.up.cut s n drop = n / 2 ^ drop + (if s = false ∧ n % 2 ^ drop ≠ 0 then 1 else 0) := by
  obtain ⟨h1, h2⟩ := min_cut n drop
  unfold Toward.cut
  simp only [Nat.shiftLeft_eq, Nat.one_mul]
  rw [h1]
  congr 1
  by_cases h : n % 2 ^ drop = 0
  · have := h2.2 h
    simp [h, this]
  · have : n % 2 ^ min drop (n.log2 + 2) ≠ 0 := fun e => h (h2.1 e)
    cases s <;> simp [h, this]
/-- The whole part and the rest, in units. -/
theorem whole_part (m : Nat) (p : Int) (hp : -1074 ≤ p) : (m <<< p.toNat) / 2 ^ (-p).toNat = m * 2 ^ (p + 1074).toNat / U ∧ ((m <<< p.toNat) % 2 ^ (-p).toNat = 0 ↔ m * 2 ^ (p + 1074).toNat % U = 0) := by
  rw [Nat.shiftLeft_eq]
  by_cases h : 0 ≤ p
  · have e1 : (-p).toNat = 0 := by omega
    have e2 : (p + 1074).toNat = p.toNat + 1074 := by omega
    have e3 : (2 : Nat) ^ (p.toNat + 1074) = 2 ^ p.toNat * U := by
      show (2 : Nat) ^ (p.toNat + uE) = 2 ^ p.toNat * 2 ^ uE
      exact Nat.pow_add _ _ _
    rw [e1, e2, e3, ← Nat.mul_assoc, Nat.mul_div_cancel _ U_pos, Nat.mul_mod_left, Nat.pow_zero, Nat.div_one, Nat.mod_one]
    exact ⟨rfl, Iff.rfl⟩
  · have e1 : p.toNat = 0 := by omega
    have e2 : U = 2 ^ (-p).toNat * 2 ^ (p + 1074).toNat := by
      unfold U
      rw [← Nat.pow_add]
      have := uE_eq
      congr 1; omega
    have hc : 0 < 2 ^ (p + 1074).toNat := Nat.pow_pos (by decide)
    rw [e1, e2, Nat.pow_zero, Nat.mul_one, Nat.mul_div_mul_right _ _ hc, Nat.mul_mod_mul_right]
    refine ⟨rfl, ?_⟩
    constructor
    · intro e; rw [e]; simp
    · intro e
      rcases Nat.mul_eq_zero.1 e with a | a
      · exact a
      · omega
theorem ediv_uniq (z q g : Int) (hg : 0 < g) (h1 : q * g ≤ z) (h2 : z < (q + 1) * g) : z / g = q := by
  have a : q ≤ z / g := (Int.le_ediv_iff_mul_le hg).2 h1
  have b : z / g < q + 1 := (Int.ediv_lt_iff_lt_mul hg).2 h2
  omega
theorem neg_floor (N g : Nat) (hg : 0 < g) : (-(N : Int)) / (g : Int) = -((N / g + (if N % g ≠ 0 then 1 else 0) : Nat) : Int) := by
  have hd := Nat.div_add_mod N g
  have hm := Nat.mod_lt N hg
  have hG : (0 : Int) < g := by exact_mod_cast hg
  have hd' : (g : Int) * (N / g : Nat) + (N % g : Nat) = N := by exact_mod_cast hd
  have hm' : ((N % g : Nat) : Int) < g := by exact_mod_cast hm
  generalize hq : N / g = q at *
  generalize hr : N % g = r at *
  by_cases h0 : r = 0
  · subst h0
    refine ediv_uniq _ _ _ hG ?_ ?_
    · rw [if_neg (by omega)]
      rw [Int.neg_mul, Int.mul_comm]; simp only [Nat.add_zero]; omega
    · rw [if_neg (by omega), Int.add_mul, Int.neg_mul, Int.mul_comm _ (g : Int)]; simp only [Nat.add_zero]; omega
  · refine ediv_uniq _ _ _ hG ?_ ?_
    · rw [if_pos h0, Int.neg_mul, Int.mul_comm]; push_cast; rw [Int.mul_add]; omega
    · rw [if_pos h0, Int.add_mul, Int.neg_mul, Int.mul_comm _ (g : Int)]; push_cast; rw [Int.mul_add]; omega
/-- A number made whole, downwards. -/
def floorK (x : Nat) : Int := key64 x / (U : Int)
def ceilK (x : Nat) : Int := -((-key64 x) / (U : Int))
theorem key_signed (s : Bool) (m : Nat) (p : Int) : signed s m (p + 1074).toNat = if s then -((m * 2 ^ (p + 1074).toNat : Nat) : Int) else ((m * 2 ^ (p + 1074).toNat : Nat) : Int) := by
  cases s
  · rw [signed_false]; rfl
  · rw [signed_true]; rfl
theorem floor_mag (s : Bool) (m : Nat) (p : Int) (hp : -1074 ≤ p) : signed s (Toward.down.cut s (m <<< p.toNat) (-p).toNat) 0 = signed s m (p + 1074).toNat / (U : Int) := by
  obtain ⟨h1, h2⟩ := whole_part m p hp
  rw [cut_down, h1, key_signed]
  generalize m * 2 ^ (p + 1074).toNat = N at *
  cases s
  · rw [signed_false]
    simp
  · rw [signed_true, if_pos rfl, neg_floor _ _ U_pos, Nat.pow_zero, Nat.mul_one]
    by_cases h : N % U = 0
    · rw [if_neg (by rw [h2.2 h]; simp), if_neg (by omega)]
    · rw [if_pos ⟨rfl, fun e => h (h2.1 e)⟩, if_pos h]
theorem ceil_mag (s : Bool) (m : Nat) (p : Int) (hp : -1074 ≤ p) : signed s (Toward.up.cut s (m <<< p.toNat) (-p).toNat) 0 = -((-signed s m (p + 1074).toNat) / (U : Int)) := by
  obtain ⟨h1, h2⟩ := whole_part m p hp
  rw [cut_up, h1, key_signed]
  generalize m * 2 ^ (p + 1074).toNat = N at *
  cases s
  · rw [signed_false, if_neg Bool.false_ne_true, neg_floor _ _ U_pos, Nat.pow_zero, Nat.mul_one, Int.neg_neg]
    by_cases h : N % U = 0
    · rw [if_neg (by rw [h2.2 h]; simp), if_neg (by omega)]
    · rw [if_pos ⟨rfl, fun e => h (h2.1 e)⟩, if_pos h]
  · rw [signed_true, if_pos rfl, Int.neg_neg]
    simp
theorem toInt_fin {x : Nat} (h : isFin x = true) : (double.read x).toInt .zero = some ((key64 x).tdiv U) := by
  obtain ⟨m, p, e, hp, k⟩ := fin_read h
  obtain ⟨h1, _⟩ := whole_part m p hp
  rw [e]
  show some (signed (neg64 x) (Toward.zero.cut (neg64 x) (m <<< p.toNat) (-p).toNat) 0) = _
  congr 1
  rw [cut_zero, h1, ← k, key_signed]
  generalize m * 2 ^ (p + 1074).toNat = N at *
  cases neg64 x
  · rw [signed_false, if_neg Bool.false_ne_true]; simp
  · rw [signed_true, if_pos rfl, Int.neg_tdiv]; simp
/-- Small whole numbers are words. -/
theorem small_rung (M : Nat) (h : M < 2 ^ 53) : ∃ r, r < infR ∧ valR r = M * U := by
  by_cases h0 : M = 0
  · subst h0
    exact ⟨0, by decide, by rw [valR_zero, Nat.zero_mul]⟩
  · have hl : M.log2 < 53 := (Nat.log2_lt h0).2 h
    have hs := Nat.log2_self_le h0
    have hs2 := Nat.lt_log2_self (n := M)
    generalize M.log2 = l at *
    have hf1 : 2 ^ 52 ≤ M * 2 ^ (52 - l) := by
      have : (2 : Nat) ^ 52 = 2 ^ l * 2 ^ (52 - l) := by rw [← Nat.pow_add]; congr 1; omega
      rw [this]
      exact Nat.mul_le_mul_right _ hs
    have hf2 : M * 2 ^ (52 - l) < 2 ^ 53 := by
      have : (2 : Nat) ^ 53 = 2 ^ (l + 1) * 2 ^ (52 - l) := by rw [← Nat.pow_add]; congr 1; omega
      rw [this]
      exact Nat.mul_lt_mul_of_pos_right hs2 (Nat.pow_pos (by decide))
    have hU : M * U = M * 2 ^ (52 - l) * 2 ^ (1022 + l) := by
      unfold U
      rw [Nat.mul_assoc, ← Nat.pow_add]
      have := uE_eq
      congr 2; omega
    generalize hf : M * 2 ^ (52 - l) = f at *
    refine ⟨(1022 + l + 1) * 2 ^ 52 + (f - 2 ^ 52), ?_, ?_⟩
    · unfold infR; omega
    · unfold valR
      rw [if_neg (by omega)]
      have e1 : ((1022 + l + 1) * 2 ^ 52 + (f - 2 ^ 52)) / 2 ^ 52 = 1022 + l + 1 := by omega
      have e2 : ((1022 + l + 1) * 2 ^ 52 + (f - 2 ^ 52)) % 2 ^ 52 = f - 2 ^ 52 := by omega
      rw [e1, e2, hU, show 2 ^ 52 + (f - 2 ^ 52) = f by omega, show 1022 + l + 1 - 1 = 1022 + l by omega]
theorem rnd_small (n : Int) (h : n.natAbs < 2 ^ 53) : rnd (n * U * U) = n * U := by
  obtain ⟨r, hr, hv⟩ := small_rung n.natAbs h
  have hk := rnd_key r (Nat.le_of_lt hr)
  rw [hv] at hk
  push_cast at hk
  by_cases hn : n < 0
  · have e : (n.natAbs : Int) = -n := by omega
    rw [e, Int.neg_mul, Int.neg_mul, rnd_neg] at hk
    omega
  · have e : (n.natAbs : Int) = n := by omega
    rw [e] at hk
    exact hk
/-- A word of a whole number. -/
theorem whole_word (s : Bool) (M : Nat) (n : Int) (hn : signed s M 0 = n) (h : n.natAbs < 2 ^ 53) : key64 (double.nearest s M 0) = n * U ∧ isFin (double.nearest s M 0) = true := by
  obtain ⟨h1, h2⟩ := key_nearest s M 0 (by decide)
  have e : signed s M (0 + 2148 : Int).toNat = n * U * U := by
    have a : (0 + 2148 : Int).toNat = (0 + 1074) + 1074 := rfl
    rw [a, signed_U, signed_U, hn]
  rw [e, rnd_small n h] at h1
  refine ⟨h1, key_fin h2 ?_ ?_⟩
  all_goals
    obtain ⟨r, hr, hv⟩ := small_rung n.natAbs h
    have := valR_lt hr
    have hb : ((n.natAbs : Int)) * U < big := by
      unfold big
      have h3 : n.natAbs * U < valR infR := by rw [← hv]; exact this
      exact_mod_cast h3
    rw [h1]
    by_cases hz : n < 0
    · have e : (n.natAbs : Int) = -n := by omega
      rw [e, Int.neg_mul] at hb
      have : n * (U : Int) ≤ 0 := Int.mul_nonpos_of_nonpos_of_nonneg (by omega) (Int.natCast_nonneg _)
      omega
    · have e : (n.natAbs : Int) = n := by omega
      rw [e] at hb
      have : 0 ≤ n * (U : Int) := Int.mul_nonneg (by omega) (Int.natCast_nonneg _)
      omega
theorem nearest_int (n : Int) (h : n.natAbs < 2 ^ 53) : key64 (double.nearest (n < 0) n.natAbs 0) = n * U ∧ isFin (double.nearest (n < 0) n.natAbs 0) = true :=
  whole_word _ _ n (by rw [signed_natAbs n _ 0 (fun _ => rfl)]; simp) h
theorem floor_word {x : Nat} (h : isFin x = true) (hb : (floorK x).natAbs < 2 ^ 53) : ∃ s M, (double.read x).integral .down = .number s M 0 ∧ key64 (double.nearest s M 0) = floorK x * U ∧ isFin (double.nearest s M 0) = true := by
  obtain ⟨m, p, e, hp, k⟩ := fin_read h
  refine ⟨_, _, by rw [e]; rfl, ?_⟩
  exact whole_word _ _ (floorK x) (by rw [floor_mag _ _ _ hp, k]; rfl) hb
theorem ceil_word {x : Nat} (h : isFin x = true) (hb : (ceilK x).natAbs < 2 ^ 53) : ∃ s M, (double.read x).integral .up = .number s M 0 ∧ key64 (double.nearest s M 0) = ceilK x * U ∧ isFin (double.nearest s M 0) = true := by
  obtain ⟨m, p, e, hp, k⟩ := fin_read h
  refine ⟨_, _, by rw [e]; rfl, ?_⟩
  exact whole_word _ _ (ceilK x) (by rw [ceil_mag _ _ _ hp, k]; rfl) hb
theorem mag_small {x : Nat} {s : Bool} {m : Nat} {p : Int} (e : double.read x = .number s m p) : m < 2 ^ 53 := by
  rw [read_of] at e
  by_cases a : rung64 x < 2 ^ 52
  · rw [if_pos a] at e; cases e; omega
  · rw [if_neg a] at e
    by_cases b : rung64 x < infR
    · rw [if_pos b] at e; cases e; omega
    · rw [if_neg b] at e
      by_cases c : rung64 x = infR
      · rw [if_pos c] at e; cases e
      · rw [if_neg c] at e; cases e
/-- Half a number. -/
theorem half_fin {x : Nat} (h : isFin x = true) : ∃ r, double.div x 0x4000000000000000 = some r ∧ (∃ z : Int, key64 r = rnd z ∧ 2 * z = key64 x * U) ∧ isNan r = false := by
  obtain ⟨m, p, e, hp, k⟩ := fin_read h
  have hm := mag_small e
  have e2 : double.read 0x4000000000000000 = .number false (2 ^ 52) (-51) := by decide
  unfold Format.div
  rw [e, e2]
  have hlog : (2 ^ 52 : Nat).log2 = 52 := by decide
  have hlm : m.log2 ≤ 52 := by
    by_cases h0 : m = 0
    · subst h0; simp
    · have := (Nat.log2_lt h0).2 hm; omega
  obtain ⟨more, hmore⟩ : ∃ more, more = 54 + 52 - m.log2 := ⟨_, rfl⟩
  have hq : (Datum.number (neg64 x) m p).quotient (double.fractionBits + 2) (.number false (2 ^ 52) (-51)) = some (.number (neg64 x ^^ false) (2 * ((m <<< more) / 2 ^ 52) + ((m <<< more) % 2 ^ 52 != 0).toNat) (p - (-51) - more - 1)) := by
    rw [hmore]
    rfl
  rw [hq]
  have hd : m <<< more = (m * 2 ^ (more - 52)) * 2 ^ 52 := by
    rw [Nat.shiftLeft_eq, Nat.mul_assoc, ← Nat.pow_add]
    congr 2; omega
  rw [hd, Nat.mul_div_cancel _ (Nat.pow_pos (by decide)), Nat.mul_mod_left]
  have e3 : (2 * (m * 2 ^ (more - 52)) + ((0 : Nat) != 0).toNat) = m * 2 ^ (more - 51) := by
    have : (2 : Nat) ^ (more - 51) = 2 ^ (more - 52) * 2 := by rw [← Nat.pow_succ]; congr 1; omega
    rw [this]
    simp only [bne_self_eq_false, Bool.toNat_false, Nat.add_zero]
    rw [Nat.mul_comm 2, Nat.mul_assoc]
  rw [e3, Bool.xor_false]
  refine ⟨_, rfl, ?_⟩
  obtain ⟨h1, h2⟩ := rnd_write (neg64 x) (m * 2 ^ (more - 51)) (p - (-51) - more - 1) _ (by omega) rfl _ rfl
  refine ⟨⟨_, h1, ?_⟩, h2⟩
  rw [← k, ← signed_U]
  have e4 : signed (neg64 x) (m * 2 ^ (more - 51)) (p - (-51) - more - 1 + 2148).toNat = signed (neg64 x) m ((p + 1074).toNat + 1073) := by
    have a : m * 2 ^ (more - 51) * 2 ^ (p - (-51) - more - 1 + 2148).toNat = m * 2 ^ ((p + 1074).toNat + 1073) := by
      rw [Nat.mul_assoc, ← Nat.pow_add]
      congr 2; omega
    cases neg64 x
    · rw [signed_false, signed_false, a]
    · rw [signed_true, signed_true, a]
  have e5 := signed_add (neg64 x) m ((p + 1074).toNat + 1073) 1
  rw [show (p + 1074).toNat + 1073 + 1 = (p + 1074).toNat + 1074 by omega, show ((2 ^ 1 : Nat) : Int) = 2 from rfl] at e5
  rw [e4, e5, Int.mul_comm]
end Go.Proofs.Ytoneofdihknnoab
