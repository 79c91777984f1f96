/- What Between tells holds what Whole tells: in plain Lean. -/
import Derived.Test.YtoneofdihknnoaaOdoOrder
set_option linter.unusedSimpArgs false
set_option linter.unusedVariables false
namespace Go.Proofs.Ytoneofdihknnoaa
open Go.RowKit Ieee

theorem ten_key : key64 TEN = 10 * U ∧ isFin TEN = true := by decide +kernel
theorem floor_le {a b : Nat} (h : key64 a ≤ key64 b) : floorK a ≤ floorK b := by
  unfold floorK
  exact Int.ediv_le_ediv (by exact_mod_cast U_pos) h
theorem ceil_le {a b : Nat} (h : key64 a ≤ key64 b) : ceilK a ≤ ceilK b := by
  unfold ceilK
  have := Int.ediv_le_ediv (c := (U : Int)) (by exact_mod_cast U_pos) (show -key64 b ≤ -key64 a by omega)
  omega
theorem floor_ceil (a : Nat) : floorK a ≤ ceilK a := by
  unfold floorK ceilK
  have hU : (0 : Int) < U := by exact_mod_cast U_pos
  have e1 := Int.mul_ediv_add_emod (key64 a) U
  have e2 := Int.emod_nonneg (key64 a) (show (U : Int) ≠ 0 by omega)
  have f1 := Int.mul_ediv_add_emod (-key64 a) U
  have f2 := Int.emod_nonneg (-key64 a) (show (U : Int) ≠ 0 by omega)
  have : (U : Int) * (key64 a / U + (-key64 a) / U) ≤ 0 := by rw [Int.mul_add]; omega
  have h0 : key64 a / U + (-key64 a) / U ≤ 0 := by
    by_cases g : 0 < key64 a / (U : Int) + (-key64 a) / (U : Int)
    · have := Int.mul_pos hU g; omega
    · omega
  omega
theorem inf_key {x : Nat} (hn : isNan x = false) (hf : ¬ isFin x = true) : rung64 x = infR := by
  simp only [isNan, isFin, decide_eq_true_eq, decide_eq_false_iff_not] at hn hf
  omega
theorem mul_within {p l : Nat} (h : double.mul p TEN = some l) (hw : withinB l = true) : isFin p = true := by
  by_cases hf : isFin p = true
  · exact hf
  · exfalso
    by_cases hn : isNan p = true
    · unfold Format.mul at h
      rw [read_nan p hn] at h
      cases h
    · have hi := inf_key (by simpa using hn) hf
      obtain ⟨m, q, e, _, _⟩ := fin_read ten_key.2
      have hm : m ≠ 0 := by
        intro e0
        subst e0
        have : (double.read TEN) = .number false (2 ^ 52 + 2 ^ 50) (-49) := by decide +kernel
        rw [this] at e
        injection e with _ e2 _
        omega
      unfold Format.mul at h
      rw [(read_inf p hi).1, e] at h
      have h2 : (Datum.infinity (neg64 p)).product (Datum.number (neg64 TEN) m q) = some (.infinity (neg64 p ^^ neg64 TEN)) := by
        show (if m = 0 then none else some (Datum.infinity (neg64 p ^^ neg64 TEN))) = _
        rw [if_neg hm]
      rw [h2] at h
      simp only [Option.map_some, Option.some.injEq] at h
      have hk := key_word (neg64 p ^^ neg64 TEN) infR (Nat.le_refl _)
      have e3 : double.word (neg64 p ^^ neg64 TEN) infR = l := h
      rw [e3] at hk
      have hb := T40_big
      unfold withinB at hw
      rw [hk.1, hk.2] at hw
      unfold big at hb
      cases hs : (neg64 p ^^ neg64 TEN) <;> rw [hs] at hw <;> simp at hw <;> omega
theorem sum_parts {d e f : Datum} (h : d.sum e = some f) (hf : ∀ s, f ≠ .infinity s) : (∃ s m p, d = .number s m p) ∧ ∃ s m p, e = .number s m p := by
  cases d with
  | nan s t => cases h
  | infinity s =>
    cases e with
    | nan _ _ => cases h
    | infinity t =>
      simp only [Datum.sum] at h
      split at h
      · injection h with h; exact absurd h.symm (hf _)
      · cases h
    | number t n j =>
      simp only [Datum.sum] at h
      injection h with h
      exact absurd h.symm (hf _)
  | number s m i =>
    cases e with
    | nan _ _ => cases h
    | infinity t =>
      simp only [Datum.sum] at h
      injection h with h
      exact absurd h.symm (hf _)
    | number t n j => exact ⟨⟨s, m, i, rfl⟩, ⟨t, n, j, rfl⟩⟩
theorem num_fin {x : Nat} {s : Bool} {m : Nat} {p : Int} (h : double.read x = .number s m p) : isFin x = true := by
  rw [read_of] at h
  simp only [isFin, decide_eq_true_eq]
  by_cases a : rung64 x < 2 ^ 52
  · unfold infR; omega
  · rw [if_neg a] at h
    by_cases b : rung64 x < infR
    · exact b
    · rw [if_neg b] at h
      by_cases c : rung64 x = infR
      · rw [if_pos c] at h; cases h
      · rw [if_neg c] at h; cases h
theorem write_fin {f : Datum} (h : isFin (double.write f) = true) : ∀ s, f ≠ .infinity s := by
  rintro s rfl
  have : double.write (.infinity s) = double.word s infR := rfl
  rw [this] at h
  have hk := word_neg s infR infR_lt
  simp only [isFin, hk.2, decide_eq_true_eq] at h
  omega
theorem add_parts {x y p : Nat} (h : double.add x y = some p) (hf : isFin p = true) : isFin x = true ∧ isFin y = true := by
  unfold Format.add at h
  cases hs : (double.read x).sum (double.read y) with
  | none => rw [hs] at h; cases h
  | some f =>
    rw [hs] at h
    simp only [Option.map_some, Option.some.injEq] at h
    rw [← h] at hf
    obtain ⟨⟨_, _, _, e1⟩, ⟨_, _, _, e2⟩⟩ := sum_parts hs (write_fin hf)
    exact ⟨num_fin e1, num_fin e2⟩
theorem sub_parts {x y p : Nat} (h : double.sub x y = some p) (hf : isFin p = true) : isFin x = true ∧ isFin y = true := by
  unfold Format.sub at h
  cases hs : (double.read x).sum (double.read y).opposite with
  | none => rw [hs] at h; cases h
  | some f =>
    rw [hs] at h
    simp only [Option.map_some, Option.some.injEq] at h
    rw [← h] at hf
    obtain ⟨⟨_, _, _, e1⟩, ⟨s, m, i, e2⟩⟩ := sum_parts hs (write_fin hf)
    refine ⟨num_fin e1, ?_⟩
    cases hd : double.read y with
    | number s m i => exact num_fin hd
    | infinity s => rw [hd] at e2; cases e2
    | nan s t => rw [hd] at e2; cases e2
/-- Between two that are within, a third is. -/
theorem within_between {a b c : Nat} (ha : withinB a = true) (hc : withinB c = true) (hn : isNan b = false) (h1 : key64 a ≤ key64 b) (h2 : key64 b ≤ key64 c) : withinB b = true := by
  unfold withinB at *
  simp only [Bool.and_eq_true, Bool.not_eq_true', decide_eq_true_eq] at *
  exact ⟨⟨hn, by omega⟩, by omega⟩
theorem mul_ten {x y m n : Nat} (hx : isFin x = true) (hy : isFin y = true) (h1 : double.mul x TEN = some m) (h2 : double.mul y TEN = some n) (h : key64 x ≤ key64 y) : key64 m ≤ key64 n := by
  obtain ⟨r, e1, k1, _⟩ := mul_fin hx ten_key.2
  obtain ⟨s, e2, k2, _⟩ := mul_fin hy ten_key.2
  rw [e1] at h1
  rw [e2] at h2
  injection h1 with h1
  injection h2 with h2
  rw [← h1, ← h2, k1, k2]
  refine rnd_mono (Int.mul_le_mul_of_nonneg_right h ?_)
  rw [ten_key.1]
  exact Int.mul_nonneg (by decide) (Int.natCast_nonneg _)
theorem fin_between {a b c : Nat} (ha : isFin a = true) (hc : isFin c = true) (hn : isNan b = false) (h1 : key64 a ≤ key64 b) (h2 : key64 b ≤ key64 c) : isFin b = true := by
  have := fin_bounds ha
  have := fin_bounds hc
  exact key_fin hn (by omega) (by omega)
/-- What lies between reading less and reading more is, whole, within what they are from and to. -/
theorem mid_whole {p q b l h : Nat} (hl : double.mul p TEN = some l) (hh : double.mul q TEN = some h) (hwl : withinB l = true) (hwh : withinB h = true) (hn : isNan b = false) (h1 : key64 p ≤ key64 b) (h2 : key64 b ≤ key64 q) :
    ∃ m, double.mul b TEN = some m ∧ withinB m = true ∧ key64 l ≤ key64 m ∧ key64 m ≤ key64 h := by
  have fp := mul_within hl hwl
  have fq := mul_within hh hwh
  have fb := fin_between fp fq hn h1 h2
  obtain ⟨m, e, _, hm⟩ := mul_fin fb ten_key.2
  have k1 := mul_ten fp fb hl e h1
  have k2 := mul_ten fb fq e hh h2
  exact ⟨m, e, within_between hwl hwh hm k1 k2, k1, k2⟩
theorem sub_key {x off p : Nat} (h : double.sub x off = some p) (hx : isFin x = true) (ho : isFin off = true) : key64 p = rnd ((key64 x - key64 off) * U) ∧ isNan p = false := by
  obtain ⟨r, e, k, n⟩ := sub_fin hx ho
  rw [e] at h
  injection h with h
  rw [← h]; exact ⟨k, n⟩
theorem add_key {x off p : Nat} (h : double.add x off = some p) (hx : isFin x = true) (ho : isFin off = true) : key64 p = rnd ((key64 x + key64 off) * U) ∧ isNan p = false := by
  obtain ⟨r, e, k, n⟩ := add_fin hx ho
  rw [e] at h
  injection h with h
  rw [← h]; exact ⟨k, n⟩
theorem U_mono {a b : Int} (h : a ≤ b) : rnd (a * U) ≤ rnd (b * U) := rnd_mono (Int.mul_le_mul_of_nonneg_right h (Int.natCast_nonneg _))
/-- All that the law says of a reading that is between. -/
theorem holds_main {x off p q l h : Nat} (hp : double.sub x off = some p) (hq : double.add x off = some q) (hl : double.mul p TEN = some l) (hh : double.mul q TEN = some h) (hwl : withinB l = true) (hwh : withinB h = true) (h0 : 0 ≤ key64 off) :
    (∃ m, double.mul x TEN = some m ∧ withinB m = true ∧ key64 l ≤ key64 m ∧ key64 m ≤ key64 h) ∧ isNan x = false ∧
    ∃ o2 p2 q2 l2 h2, double.div off 4611686018427387904 = some o2 ∧ isNan o2 = false ∧ 0 ≤ key64 o2 ∧ double.sub x o2 = some p2 ∧ double.add x o2 = some q2 ∧ double.mul p2 TEN = some l2 ∧ double.mul q2 TEN = some h2 ∧
      withinB l2 = true ∧ withinB h2 = true ∧ key64 l ≤ key64 l2 ∧ key64 h2 ≤ key64 h := by
  have fp := mul_within hl hwl
  have fq := mul_within hh hwh
  obtain ⟨fx, fo⟩ := sub_parts hp fp
  obtain ⟨kp, np⟩ := sub_key hp fx fo
  obtain ⟨kq, nq⟩ := add_key hq fx fo
  have nx := fin_nan fx
  have kx := rnd_keyU x nx
  have kpx : key64 p ≤ key64 x := by
    have := U_mono (show key64 x - key64 off ≤ key64 x by omega)
    rw [kx, ← kp] at this; exact this
  have kxq : key64 x ≤ key64 q := by
    have := U_mono (show key64 x ≤ key64 x + key64 off by omega)
    rw [kx, ← kq] at this; exact this
  refine ⟨mid_whole hl hh hwl hwh nx kpx kxq, nx, ?_⟩
  obtain ⟨o2, e2, ⟨z, kz, hz⟩, n2⟩ := half_fin fo
  have hU : (0 : Int) < U := by exact_mod_cast U_pos
  have hoU : 0 ≤ key64 off * (U : Int) := Int.mul_nonneg h0 (Int.natCast_nonneg _)
  have kz0 : 0 ≤ key64 o2 := by
    have := rnd_mono (show (0 : Int) ≤ z by omega)
    rw [← kz] at this
    have r0 : rnd 0 = 0 := by unfold rnd; simp [rungV_zero, valR_zero]
    omega
  have kzo : key64 o2 ≤ key64 off := by
    have := rnd_mono (show z ≤ key64 off * U by omega)
    rw [← kz, rnd_keyU off (fin_nan fo)] at this
    exact this
  have ho := fin_bounds fo
  have hbp := big_pos
  have f2 : isFin o2 = true := key_fin n2 (by omega) (by omega)
  obtain ⟨p2, ep2, kp2, np2⟩ := sub_fin fx f2
  obtain ⟨q2, eq2, kq2, nq2⟩ := add_fin fx f2
  have a1 : key64 p ≤ key64 p2 := by rw [kp, kp2]; exact U_mono (by omega)
  have a2 : key64 p2 ≤ key64 q := by
    refine Int.le_trans ?_ kxq
    have := U_mono (show key64 x - key64 o2 ≤ key64 x by omega)
    rw [kx, ← kp2] at this; exact this
  have b1 : key64 q2 ≤ key64 q := by rw [kq, kq2]; exact U_mono (by omega)
  have b2 : key64 p ≤ key64 q2 := by
    refine Int.le_trans kpx ?_
    have := U_mono (show key64 x ≤ key64 x + key64 o2 by omega)
    rw [kx, ← kq2] at this; exact this
  obtain ⟨l2, el2, wl2, c1, _⟩ := mid_whole hl hh hwl hwh np2 a1 a2
  obtain ⟨h2, eh2, wh2, _, c2⟩ := mid_whole hl hh hwl hwh nq2 b2 b1
  exact ⟨o2, p2, q2, l2, h2, e2, n2, kz0, ep2, eq2, el2, eh2, wl2, wh2, c1, c2⟩
theorem ltB_false {off : Nat} (hn : isNan off = false) : ltB off 0 = false ↔ 0 ≤ key64 off := by
  unfold ltB
  rw [cmp_zero, hn, if_neg Bool.false_ne_true]
  rcases Int.lt_trichotomy (key64 off) 0 with g | g | g
  · rw [Int.compare_eq_lt.2 g]; simp; omega
  · rw [Int.compare_eq_eq.2 g]; simp; omega
  · rw [Int.compare_eq_gt.2 g]; simp; omega
theorem between_yes {x off p q l h : Nat} (hx : isNan x = false) (ho : isNan off = false) (h0 : 0 ≤ key64 off) (hp : floatBits .sub .f64 x off = some p) (hq : floatBits .add .f64 x off = some q) (hl : floatBits .mul .f64 p TEN = some l) (hh : floatBits .mul .f64 q TEN = some h)
    (hwl : withinB l = true) (hwh : withinB h = true) : betweenV x off = (floorK l, ceilK h, 0) := by
  unfold betweenV
  rw [if_neg (by rw [hx, ho, (ltB_false ho).2 h0]; simp), hp, hq]
  show betweenOf (floatBits .mul .f64 p TEN) (floatBits .mul .f64 q TEN) = _
  rw [hl, hh]
  show (if withinB l = true ∧ withinB h = true then _ else _) = _
  rw [if_pos ⟨hwl, hwh⟩]
theorem between_cases (x off : Nat) : (betweenV x off = (0, 0, 40) ∨ betweenV x off = (0, 0, 7)) ∨ ∃ p q l h, floatBits .sub .f64 x off = some p ∧ floatBits .add .f64 x off = some q ∧ floatBits .mul .f64 p TEN = some l ∧ floatBits .mul .f64 q TEN = some h ∧ withinB l = true ∧ withinB h = true ∧ 0 ≤ key64 off ∧ betweenV x off = (floorK l, ceilK h, 0) := by
  unfold betweenV
  by_cases hc : isNan x = true ∨ isNan off = true ∨ ltB off 0 = true
  · rw [if_pos hc]; exact .inl (.inl rfl)
  · rw [if_neg hc]
    have ho : isNan off = false := by
      cases h : isNan off
      · rfl
      · exact absurd (.inr (.inl h)) hc
    have hl : ltB off 0 = false := by
      cases h : ltB off 0
      · rfl
      · exact absurd (.inr (.inr h)) hc
    have h0 := (ltB_false ho).1 hl
    cases hp : floatBits .sub .f64 x off with
    | none => exact .inl (.inr rfl)
    | some p =>
      cases hq : floatBits .add .f64 x off with
      | none =>
        refine .inl (.inr ?_)
        show betweenOf (floatBits .mul .f64 p TEN) none = _
        cases floatBits .mul .f64 p TEN <;> rfl
      | some q =>
        show (betweenOf (floatBits .mul .f64 p TEN) (floatBits .mul .f64 q TEN) = _ ∨ betweenOf (floatBits .mul .f64 p TEN) (floatBits .mul .f64 q TEN) = _) ∨ _
        cases hl : floatBits .mul .f64 p TEN with
        | none => exact .inl (.inr rfl)
        | some l =>
          cases hh : floatBits .mul .f64 q TEN with
          | none => exact .inl (.inr rfl)
          | some h =>
            by_cases hw : withinB l = true ∧ withinB h = true
            · refine .inr ⟨p, q, l, h, rfl, rfl, hl, hh, hw.1, hw.2, h0, ?_⟩
              show betweenOf (floatBits .mul .f64 p TEN) (floatBits .mul .f64 q TEN) = _
              rw [hl, hh]
              show (if withinB l = true ∧ withinB h = true then _ else _) = _
              rw [if_pos hw]
            · refine .inl (.inr ?_)
              show (if withinB l = true ∧ withinB h = true then _ else _) = _
              rw [if_neg hw]
theorem whole_yes {x m : Nat} (hn : isNan x = false) (hm : floatBits .mul .f64 x TEN = some m) (hw : withinB m = true) : wholeV x = (floorK m, 0) := by
  unfold wholeV
  rw [if_neg (by simp [hn]), hm]
  show (if withinB m = true then _ else _) = _
  rw [if_pos hw]
end Go.Proofs.Ytoneofdihknnoaa
