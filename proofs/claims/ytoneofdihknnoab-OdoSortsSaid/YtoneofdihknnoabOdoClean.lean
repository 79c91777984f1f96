/- Clean: the package's and the document's. -/
import Derived.Test.YtoneofdihknnoabOdoLists
set_option linter.unusedSimpArgs false
set_option linter.unusedVariables false
namespace Go.Proofs.Ytoneofdihknnoab
open Go.RowKit Go.Shelf Go.Sort Ieee

theorem word_lt (s : Bool) (r : Nat) (h : r ≤ infR) : double.word s r < 2 ^ 64 := by
  have := infR_lt
  have hw : double.signWeight = 2 ^ 63 := by decide
  unfold Format.word
  cases s <;> simp [hw] <;> omega
theorem add_lt {x y r : Nat} (hx : isFin x = true) (hy : isFin y = true) (h : double.add x y = some r) : r < 2 ^ 64 := by
  obtain ⟨m, i, e1, h1, k1⟩ := fin_read hx
  obtain ⟨n, j, e2, h2, k2⟩ := fin_read hy
  unfold Format.add at h
  rw [e1, e2] at h
  have h3 : some (double.nearest (if signed (neg64 x) m (i - min i j).toNat + signed (neg64 y) n (j - min i j).toNat = 0 then neg64 x && neg64 y else decide (signed (neg64 x) m (i - min i j).toNat + signed (neg64 y) n (j - min i j).toNat < 0)) (signed (neg64 x) m (i - min i j).toNat + signed (neg64 y) n (j - min i j).toNat).natAbs (min i j)) = some r := h
  injection h3 with h3
  rw [← h3, nearest_is _ _ _ (by omega)]
  exact word_lt _ _ (Nat.min_le_right _ _)
theorem sub_none {x : Nat} (h : isFin x = false) : double.sub x x = none := by
  unfold Format.sub
  by_cases hn : isNan x = true
  · rw [read_nan x hn]; rfl
  · have hr : rung64 x = infR := by
      simp only [isFin, isNan, decide_eq_true_eq, decide_eq_false_iff_not] at h hn
      omega
    rw [(read_inf x hr).1]
    cases neg64 x <;> rfl
theorem add00 : double.add 0 0 = some 0 := by decide +kernel
theorem add80 : double.add 9223372036854775808 0 = some 0 := by decide +kernel
theorem fin0 : isFin 0 = true := by decide +kernel
theorem key0 : key64 0 = 0 ∧ neg64 0 = false := by decide +kernel
/-- What is put in the place of a number that is kept: its place. -/
def cleanP (x : UInt64) : Int := 2 * key64 x.toNat
theorem clean_add (x : UInt64) (h : isFin x.toNat = true) : ∃ r : UInt64, double.add x.toNat 0 = some r.toNat ∧ placeV r.toNat = cleanP x := by
  have hlt := x.toNat_lt
  by_cases hk : key64 x.toNat = 0
  · have hr := key_zero hk
    have hx : x.toNat = 0 ∨ x.toNat = 9223372036854775808 := by
      unfold rung64 at hr
      omega
    refine ⟨0, ?_, ?_⟩
    · rcases hx with e | e
      · rw [e]; exact add00
      · rw [e]; exact add80
    · show placeV 0 = _
      unfold cleanP
      rw [hk]
      decide +kernel
  · obtain ⟨r, h1, h2, h3⟩ := add_fin h fin0
    rw [key0.1, Int.add_zero, rnd_key64 _ (fin_nan h)] at h2
    have hl := add_lt h fin0 h1
    refine ⟨UInt64.ofNat r, ?_, ?_⟩
    · rw [h1, UInt64.toNat_ofNat', Nat.mod_eq_of_lt hl]
    · rw [UInt64.toNat_ofNat', Nat.mod_eq_of_lt hl]
      unfold placeV rankV cleanP
      rw [h3, h2]
      simp [hk]
theorem fin_iff (x : Nat) (h : isNan x = false) : isFin x = true ↔ -big < key64 x ∧ key64 x < big := ⟨fin_bounds, fun ⟨h1, h2⟩ => key_fin h h1 h2⟩
def finF (ys : List UInt64) : List UInt64 := ys.filter fun x => isFin x.toNat
theorem finF_succ {ys : List UInt64} {k : Nat} (hk : k < ys.length) : finF (ys.take (k + 1)) = finF (ys.take k) ++ (if isFin ys[k]!.toNat then [ys[k]!] else []) := by
  unfold finF
  rw [List.take_succ_eq_append_getElem hk, List.filter_append, getElem!_pos ys k hk]
  congr 1
  cases h : isFin (ys[k]).toNat <;> simp [h]
theorem finF_len (ys : List UInt64) (k : Nat) : (finF (ys.take k)).length ≤ k := Nat.le_trans (List.length_filter_le _ _) (List.length_take_le _ _)
theorem one_new (w : World) {x : UInt64} {xn : Nat} (h : Value.float .f64 xn = encF x) : RowF (w.alloc (.cells #[Value.float .f64 xn] 26)) (some ⟨w.heap.size, 0, none⟩) [x] := one_row (by rw [← h]; exact Blk.new w 26 #[Value.float .f64 xn])
/-- What a Clean hands back. -/
def Cleaned (ys : List UInt64) (w : World) (e : Ending) (w' : World) : Prop := ∃ A2 c2 zs m, e = .returned (.slice A2 m c2) ∧ zs.length = m ∧ zs.map (fun x => placeV x.toNat) = (finF ys).map cleanP ∧ RowF w' A2 zs ∧ Below w.heap.size w w'
set_option maxHeartbeats 8000000 in
set_option maxRecDepth 100000 in
theorem pclean_k (A : Option Addr) (c n : Nat) (ys : List UInt64) (w : World) (hn : ys.length = n) (hn200 : n ≤ 200) (hY : RowF w A ys) :
    Calls Try.prog 8 #[.slice A n c] w (Cleaned ys w) := by
  have HN := Lib.hid hn
  clear hn
  have hcl0 := encF_one.cells
  simp only [Value.cells] at hcl0
  have hst := encF_one.store Try.prog
  go_enter Try.func8, Try.ntmps8
  go_wp2_with fail
  go_loopw [8, 3] (fun i v wr => ∃ (k : Nat) (A2 : Option Addr) (c2 m : Nat) (zs : List UInt64), k ≤ n ∧ m ≤ k ∧ i = .int .i64 k ∧ v = .slice A2 m c2 ∧ zs.length = m ∧ zs.map (fun x => placeV x.toNat) = (finF (ys.take k)).map cleanP ∧ OwnF wr w.heap.size A2 c2 zs ∧ Below w.heap.size w wr) (fun i _ _ => n - (intOf i).toNat)
  case atStart => exact ⟨0, none, 0, 0, [], Nat.zero_le _, Nat.le_refl _, rfl, rfl, rfl, rfl, OwnF.nil _ _, Below.refl _ _⟩
  case round =>
    obtain ⟨k, A2, c2, m, zs, hk, hmk, rfl, rfl, hzl, hzm, hO, hb⟩ := hrel
    have HZL := Lib.hid hzl
    have HZM := Lib.hid hzm
    clear hzl hzm
    by_cases hlt : k < n
    · have HS := Lib.hid (finF_succ (ys := ys) (k := k) (by rw [HN.out]; exact hlt))
      obtain ⟨b, off, rfl, hbl, hc⟩ := hY.below hb (by rw [HN.out]; omega)
      have hcx := hc k (by rw [HN.out]; exact hlt)
      obtain ⟨x, hx⟩ : ∃ x, x = ys[k]! := ⟨_, rfl⟩
      rw [← hx] at hcx HS
      clear hc hx
      unfold encF at hcx
      cases hf : isFin x.toNat with
      | true =>
        rw [hf, if_pos rfl] at HS
        obtain ⟨r, h1, h2, h3⟩ := sub_fin hf hf
        have hrz : key64 r = 0 := by rw [h2, Int.sub_self, Int.zero_mul]; have := rnd_key 0 (Nat.zero_le _); simpa [valR] using this
        have hz := cmp_zero r
        rw [h3, if_neg Bool.false_ne_true, hrz] at hz
        have hz' : FloatKind.f64.format.order r 0 = some .eq := hz
        obtain ⟨r2, h4, h5⟩ := clean_add x hf
        have hq := fun W t => run_float_arith (P := Try.prog) W .sub t .f64 x.toNat x.toNat r h1
        have hq2 := fun W t => run_float_arith (P := Try.prog) W .add t .f64 x.toNat 0 r2.toNat h4
        have H5 := Lib.hid h5
        clear h1 h2 h3 hrz hz h4 h5 hf
        generalize x.toNat = xn at *
        have er2 : Value.float .f64 r2.toNat = encF r2 := rfl
        obtain ⟨rn, hrn⟩ : ∃ rn, rn = r2.toNat := ⟨_, rfl⟩
        rw [← hrn] at er2
        simp only [← hrn] at hq2
        clear hrn
        go_wp2_with (at_builtin; refine wpList_app_f rfl _ _ rfl w.heap.size A2 c2 zs m rfl HZL.out (hO.below ((Below.refl _ _).alloc (Nat.le_refl _) _)) (some ⟨wr.heap.size, 0, none⟩) 1 [r2] 1 rfl rfl (one_row (by have := Blk.new wr 26 #[Value.float .f64 rn]; rwa [er2] at this)) (by omega) (Nat.le_trans hb.size (by simp)) ?_; intro A3 c3 W3 hO3 hg3 h3)
        go_roundw
        case rel => exact ⟨k + 1, A3, c3, m + 1, zs ++ [r2], by omega, by omega, by go_num, rfl, by rw [List.length_append, HZL.out]; rfl, by rw [HS.out, List.map_append, List.map_append, HZM.out]; congr 1; exact congrArg (fun z => [z]) H5.out, hO3, (hb.trans (((Below.refl _ _).alloc (Nat.le_refl _) _).mono hb.size)).grown hg3 (by have := hb.size; simp; omega) (fun q hq => (hO.row_ge q hq).1)⟩
        case measure => simp [intOf]; omega
      | false =>
        rw [hf, if_neg Bool.false_ne_true, List.append_nil] at HS
        obtain ⟨r, q, hm, hg⟩ := float_op (P := Try.prog) .sub (by simp) x.toNat x.toNat wr
        have hr : isNan r = true ∧ q = 1 := by
          rcases hg with ⟨h, _⟩ | ⟨_, h, h2⟩
          · have : floatBits .sub .f64 x.toNat x.toNat = double.sub x.toNat x.toNat := rfl
            rw [this, sub_none hf] at h
            cases h
          · exact ⟨h, h2⟩
        obtain ⟨hr, rfl⟩ := hr
        have hz := cmp_zero r
        rw [if_pos hr] at hz
        clear hg hr hf
        generalize x.toNat = xn at *
        go_wp2_with fail
        go_roundw
        case rel => exact ⟨k + 1, A2, c2, m, zs, by omega, by omega, by go_num, rfl, HZL.out, by rw [HS.out]; exact HZM.out, hO.below (below_drewN (Below.refl _ _) _), below_drewN hb _⟩
        case measure => simp [intOf]; omega
    · obtain rfl : k = n := by omega
      go_wp2_with fail
      go_ret
      exact ⟨A2, c2, zs, m, rfl, HZL.out, by have := HZM.out; rwa [List.take_of_length_le (by rw [HN.out]; exact Nat.le_refl _)] at this, hO.rowF, hb⟩
def MAXF : Nat := 9218868437227405311
def MINF : Nat := 18442240474082181119
theorem max_is : key64 MAXF = valR (infR - 1) ∧ isNan MAXF = false := by decide +kernel
theorem min_is : key64 MINF = -(valR (infR - 1) : Int) ∧ isNan MINF = false := by decide +kernel
theorem fin_max {x : Nat} (h : isFin x = true) : -(valR (infR - 1) : Int) ≤ key64 x ∧ key64 x ≤ valR (infR - 1) := by
  simp only [isFin, decide_eq_true_eq] at h
  have h1 : valR (rung64 x) ≤ valR (infR - 1) := by
    rcases Nat.eq_or_lt_of_le (show rung64 x ≤ infR - 1 by omega) with e | e
    · rw [e]; exact Nat.le_refl _
    · exact Nat.le_of_lt (valR_lt e)
  have h2 : (valR (rung64 x) : Int) ≤ valR (infR - 1) := by exact_mod_cast h1
  have h0 : (0 : Int) ≤ valR (rung64 x) := Int.natCast_nonneg _
  unfold key64
  split <;> omega
theorem inf_max {x : Nat} (h : isFin x = false) (hn : isNan x = false) : (key64 x > valR (infR - 1)) ∨ (key64 x < -(valR (infR - 1) : Int)) := by
  have hr : rung64 x = infR := by
    simp only [isFin, isNan, decide_eq_false_iff_not] at h hn
    omega
  have h1 : valR (infR - 1) < valR infR := valR_lt (by unfold infR; omega)
  have h2 : (valR (infR - 1) : Int) < valR infR := by exact_mod_cast h1
  have := (read_inf x hr).2
  rw [this]
  cases neg64 x
  · left; simpa using h2
  · right; simp; omega
theorem ord_max (x : Nat) (hn : isNan x = false) : FloatKind.f64.format.order x 9218868437227405311 = some (compare (key64 x) (valR (infR - 1))) := by
  have h : FloatKind.f64.format.order x MAXF = cmpK x MAXF := order_is _ _
  rw [cmp_some _ _ hn max_is.2, max_is.1] at h
  exact h
theorem ord_min (x : Nat) (hn : isNan x = false) : FloatKind.f64.format.order x 18442240474082181119 = some (compare (key64 x) (-(valR (infR - 1) : Int))) := by
  have h : FloatKind.f64.format.order x MINF = cmpK x MINF := order_is _ _
  rw [cmp_some _ _ hn min_is.2, min_is.1] at h
  exact h
theorem cmp_le {a b : Int} (h : a ≤ b) : compare a b = .lt ∨ compare a b = .eq := by
  rcases Int.lt_or_eq_of_le h with h | h
  · exact .inl (Int.compare_eq_lt.2 h)
  · exact .inr (Int.compare_eq_eq.2 h)
theorem cmp_ge {a b : Int} (h : b ≤ a) : compare a b = .gt ∨ compare a b = .eq := by
  rcases Int.lt_or_eq_of_le h with h | h
  · exact .inl (Int.compare_eq_gt.2 h)
  · exact .inr (Int.compare_eq_eq.2 h.symm)
set_option maxHeartbeats 8000000 in
set_option maxRecDepth 100000 in
theorem rclean_k (A : Option Addr) (c n : Nat) (ys : List UInt64) (w : World) (hn : ys.length = n) (hn200 : n ≤ 200) (hY : RowF w A ys) :
    Calls Try.prog 9 #[.slice A n c] w (Cleaned ys w) := by
  have HN := Lib.hid hn
  clear hn
  have hcl0 := encF_one.cells
  simp only [Value.cells] at hcl0
  have hst := encF_one.store Try.prog
  go_enter Try.func9, Try.ntmps9
  go_wp2_with fail
  go_loopw [4, 3] (fun i v wr => ∃ (k : Nat) (A2 : Option Addr) (c2 m : Nat) (zs : List UInt64), k ≤ n ∧ m ≤ k ∧ i = .int .i64 k ∧ v = .slice A2 m c2 ∧ zs.length = m ∧ zs.map (fun x => placeV x.toNat) = (finF (ys.take k)).map cleanP ∧ OwnF wr w.heap.size A2 c2 zs ∧ Below w.heap.size w wr) (fun i _ _ => n - (intOf i).toNat)
  case atStart => exact ⟨0, none, 0, 0, [], Nat.zero_le _, Nat.le_refl _, rfl, rfl, rfl, rfl, OwnF.nil _ _, Below.refl _ _⟩
  case round =>
    obtain ⟨k, A2, c2, m, zs, hk, hmk, rfl, rfl, hzl, hzm, hO, hb⟩ := hrel
    have HZL := Lib.hid hzl
    have HZM := Lib.hid hzm
    clear hzl hzm
    by_cases hlt : k < n
    · have HS := Lib.hid (finF_succ (ys := ys) (k := k) (by rw [HN.out]; exact hlt))
      obtain ⟨b, off, rfl, hbl, hc⟩ := hY.below hb (by rw [HN.out]; omega)
      have hcx := hc k (by rw [HN.out]; exact hlt)
      obtain ⟨x, hx⟩ : ∃ x, x = ys[k]! := ⟨_, rfl⟩
      rw [← hx] at hcx HS
      clear hc hx
      unfold encF at hcx
      have hno := fun W => rodnone_k x.toNat W
      cases hnan : isNan x.toNat with
      | true =>
        have hf : isFin x.toNat = false := by
          simp only [isFin, isNan, decide_eq_true_eq, decide_eq_false_iff_not] at hnan ⊢
          omega
        rw [hf, if_neg Bool.false_ne_true, List.append_nil] at HS
        rw [hnan] at hno
        clear hf hnan
        generalize x.toNat = xn at *
        go_wp2_with (go_at_call 20; (with_reducible refine (hno _).mono ?_); rintro e w1 ⟨rfl, rfl⟩)
        go_roundw
        case rel => exact ⟨k + 1, A2, c2, m, zs, by omega, by omega, by go_num, rfl, HZL.out, by rw [HS.out]; exact HZM.out, hO, hb⟩
        case measure => simp [intOf]; omega
      | false =>
        rw [hnan] at hno
        have ho1 := ord_max x.toNat hnan
        have ho2 := ord_min x.toNat hnan
        cases hf : isFin x.toNat with
        | false =>
          rw [hf, if_neg Bool.false_ne_true, List.append_nil] at HS
          have hcase : compare (key64 x.toNat) (valR (infR - 1) : Int) = .gt ∨ (compare (key64 x.toNat) (valR (infR - 1) : Int) = .lt ∧ compare (key64 x.toNat) (-(valR (infR - 1) : Int)) = .lt) := by
            rcases inf_max hf hnan with h | h
            · exact .inl (Int.compare_eq_gt.2 h)
            · have h0 : (0 : Int) ≤ valR (infR - 1) := Int.natCast_nonneg _
              exact .inr ⟨Int.compare_eq_lt.2 (by omega), Int.compare_eq_lt.2 h⟩
          clear hnan hf
          rcases hcase with h | ⟨h, h'⟩
          · rw [h] at ho1
            clear h ho2
            generalize x.toNat = xn at *
            go_wp2_with (go_at_call 20; (with_reducible refine (hno _).mono ?_); rintro e w1 ⟨rfl, rfl⟩)
            go_roundw
            case rel => exact ⟨k + 1, A2, c2, m, zs, by omega, by omega, by go_num, rfl, HZL.out, by rw [HS.out]; exact HZM.out, hO, hb⟩
            case measure => simp [intOf]; omega
          · rw [h] at ho1
            rw [h'] at ho2
            clear h h'
            generalize x.toNat = xn at *
            go_wp2_with (go_at_call 20; (with_reducible refine (hno _).mono ?_); rintro e w1 ⟨rfl, rfl⟩)
            go_roundw
            case rel => exact ⟨k + 1, A2, c2, m, zs, by omega, by omega, by go_num, rfl, HZL.out, by rw [HS.out]; exact HZM.out, hO, hb⟩
            case measure => simp [intOf]; omega
        | true =>
          rw [hf, if_pos rfl] at HS
          have hm1 := fin_max hf
          have hz := cmp_zero x.toNat
          rw [if_neg (by rw [hnan]; exact Bool.false_ne_true)] at hz
          by_cases hk0 : key64 x.toNat = 0
          · have H5 := Lib.hid (show placeV (0 : UInt64).toNat = cleanP x by unfold cleanP; rw [hk0]; decide +kernel)
            rw [Int.compare_eq_eq.2 hk0] at hz
            have ER2 := Lib.hid (show Value.float .f64 0 = encF 0 from rfl)
            rcases cmp_le hm1.2 with h | h <;> rcases cmp_ge hm1.1 with h' | h'
            all_goals
              rw [h] at ho1
              rw [h'] at ho2
              clear h h' hm1 hk0 hf hnan
              generalize x.toNat = xn at *
              go_wp2_with (first
                | (go_at_call 20; (with_reducible refine (hno _).mono ?_); rintro e w1 ⟨rfl, rfl⟩)
                | (at_builtin; refine wpList_app_f rfl _ _ rfl w.heap.size A2 c2 zs m rfl HZL.out (hO.below ((Below.refl _ _).alloc (Nat.le_refl _) _)) (some ⟨wr.heap.size, 0, none⟩) 1 [0] 1 rfl rfl (one_new wr ER2.out) (by omega) (Nat.le_trans hb.size (by simp)) ?_; intro A3 c3 W3 hO3 hg3 h3))
              go_roundw
              case rel => exact ⟨k + 1, A3, c3, m + 1, zs ++ [0], by omega, by omega, by go_num, rfl, by rw [List.length_append, HZL.out]; rfl, by rw [HS.out, List.map_append, List.map_append, HZM.out]; congr 1; exact congrArg (fun z => [z]) H5.out, hO3, (hb.trans (((Below.refl _ _).alloc (Nat.le_refl _) _).mono hb.size)).grown hg3 (by have := hb.size; simp; omega) (fun q hq => (hO.row_ge q hq).1)⟩
              case measure => simp [intOf]; omega
          · have H5 := Lib.hid (show placeV x.toNat = cleanP x by unfold cleanP placeV rankV; rw [hnan]; simp [hk0])
            have er2 : Value.float .f64 x.toNat = encF x := rfl
            have hzc : compare (key64 x.toNat) 0 = .lt ∨ compare (key64 x.toNat) 0 = .gt := by
              rcases Int.lt_or_gt_of_ne hk0 with h | h
              · exact .inl (Int.compare_eq_lt.2 h)
              · exact .inr (Int.compare_eq_gt.2 h)
            rcases cmp_le hm1.2 with h | h <;> rcases cmp_ge hm1.1 with h' | h' <;> rcases hzc with h'' | h''
            all_goals
              rw [h] at ho1
              rw [h'] at ho2
              rw [h''] at hz
              clear h h' h'' hm1 hk0 hf hnan
              obtain ⟨xn, hxn⟩ : ∃ xn, xn = x.toNat := ⟨_, rfl⟩
              rw [← hxn] at er2
              simp only [← hxn] at hno ho1 ho2 hz hcx
              have ER2 := Lib.hid er2
              clear hxn er2
              go_wp2_with (first
                | (go_at_call 20; (with_reducible refine (hno _).mono ?_); rintro e w1 ⟨rfl, rfl⟩)
                | (at_builtin; refine wpList_app_f rfl _ _ rfl w.heap.size A2 c2 zs m rfl HZL.out (hO.below ((Below.refl _ _).alloc (Nat.le_refl _) _)) (some ⟨wr.heap.size, 0, none⟩) 1 [x] 1 rfl rfl (one_new wr ER2.out) (by omega) (Nat.le_trans hb.size (by simp)) ?_; intro A3 c3 W3 hO3 hg3 h3))
              go_roundw
              case rel => exact ⟨k + 1, A3, c3, m + 1, zs ++ [x], by omega, by omega, by go_num, rfl, by rw [List.length_append, HZL.out]; rfl, by rw [HS.out, List.map_append, List.map_append, HZM.out]; congr 1; exact congrArg (fun z => [z]) H5.out, hO3, (hb.trans (((Below.refl _ _).alloc (Nat.le_refl _) _).mono hb.size)).grown hg3 (by have := hb.size; simp; omega) (fun q hq => (hO.row_ge q hq).1)⟩
              case measure => simp [intOf]; omega
    · obtain rfl : k = n := by omega
      go_wp2_with fail
      go_ret
      exact ⟨A2, c2, zs, m, rfl, HZL.out, by have := HZM.out; rwa [List.take_of_length_le (by rw [HN.out]; exact Nat.le_refl _)] at this, hO.rowF, hb⟩
end Go.Proofs.Ytoneofdihknnoab
