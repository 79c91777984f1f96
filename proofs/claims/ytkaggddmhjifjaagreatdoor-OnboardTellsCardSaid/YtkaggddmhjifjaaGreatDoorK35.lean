/- Texts in one: DocSmall DocRules DocNone. -/
import Derived.Test.YtkaggddmhjifjaaGreatDoorK14
import Derived.Test.YtkaggddmhjifjaaGreatDoorK33
import Derived.Test.YtkaggddmhjifjaaGreatDoorK13
import Derived.Test.YtkaggddmhjifjaaGreatDoorK28
set_option linter.unusedSimpArgs false
set_option linter.unusedVariables false
namespace Go.Proofs.YtkaggddmhjifjaaGreatDoor
open Go.RowKit Go.Shelf
theorem rtime_k (n : Int) (w : World) : Calls Tryz.prog 59 #[.int .i64 n] w fun e w' => e = .returned (.bool (timeP n)) ∧ w' = w := by
 by_cases h1 : 0 ≤ n
 ·
  have f1 : decide (0 ≤ n) = true := by simpa using h1
  by_cases h2 : n ≤ 4294967294
  ·
   have f2 : decide (n < 4294967295) = true := by simp; omega
   go_enter Tryz.func59, Tryz.ntmps59
   go_wp2
   go_ret
   exact ⟨by simp [timeP, h1, h2], rfl⟩
  ·
   have f2 : decide (n < 4294967295) = false := by simp; omega
   go_enter Tryz.func59, Tryz.ntmps59
   go_wp2
   go_ret
   exact ⟨by simp [timeP, h1, h2], rfl⟩
 ·
  have f1 : decide (0 ≤ n) = false := by simpa using h1
  go_enter Tryz.func59, Tryz.ntmps59
  go_wp2
  go_ret
  exact ⟨by simp [timeP]; omega, rfl⟩
theorem rtick_k (n : Int) (w : World) : Calls Tryz.prog 27 #[.int .i64 n] w fun e w' => e = .returned (.bool (clockP n)) ∧ w' = w := by
 by_cases h1 : 0 ≤ n
 ·
  have f1 : decide (0 ≤ n) = true := by simpa using h1
  by_cases h2 : n ≤ 268435456
  ·
   have f2 : decide (n ≤ 268435456) = true := by simpa using h2
   go_enter Tryz.func27, Tryz.ntmps27
   go_wp2
   go_ret
   exact ⟨by simp [clockP, h1, h2], rfl⟩
  ·
   have f2 : decide (n ≤ 268435456) = false := by simpa using h2
   go_enter Tryz.func27, Tryz.ntmps27
   go_wp2
   go_ret
   exact ⟨by simp [clockP, h1, h2], rfl⟩
 ·
  have f1 : decide (0 ≤ n) = false := by simpa using h1
  go_enter Tryz.func27, Tryz.ntmps27
  go_wp2
  go_ret
  exact ⟨by simp [clockP]; omega, rfl⟩
set_option maxHeartbeats 4000000 in
theorem rsnew_k (a b : Int) (w : World) : Calls Tryz.prog 109 #[.int .i64 a, .int .i64 b] w fun e w' => e = .returned (.tuple #[.agg (stampN a b), .int .i64 (stampE a b)]) ∧ Below w.heap.size w w' := by
 have h1 := fun W => rtime_k a W
 have h2 := fun W => rtime_k b W
 have hO : Own w _ [_] := (Own.nil w).alloc 36 #[.int .i64 0, .int .i64 0, .int .i64 0, .bool false] _ rfl
 unfold stampN stampE
 generalize timeP a = p at *
 generalize timeP b = q at *
 cases p <;> cases q
 ·
  go_enter Tryz.func109, Tryz.ntmps109
  go_wp2_with (first
   |(go_at_call 59; (with_reducible refine (h1 _).mono ?_); rintro e w1 ⟨rfl, rfl⟩)
   |(go_at_call 59; (with_reducible refine (h2 _).mono ?_); rintro e w2 ⟨rfl, rfl⟩)
   |((with_reducible refine own_row0 (#[.int .i64 0, .int .i64 0, .int .i64 0, .bool false]) hO rfl _ _ rfl rfl rfl (by kernel_rfl) rfl ?_ ?_); (· first | rfl | (simp [Value.oneCell']; done)); intro wR hOR hszR hkR; replace hO := hOR; clear hOR)
   )
  exact bodyPost_ret (results_ct1 Tryz.results109 _ _ _ _ _ _ rfl rfl hO.b0 Tryz.underlying36 rfl (by kernel_rfl)) rfl ⟨rfl, hO.below⟩
 ·
  go_enter Tryz.func109, Tryz.ntmps109
  go_wp2_with (first
   |(go_at_call 59; (with_reducible refine (h1 _).mono ?_); rintro e w1 ⟨rfl, rfl⟩)
   |(go_at_call 59; (with_reducible refine (h2 _).mono ?_); rintro e w2 ⟨rfl, rfl⟩)
   |((with_reducible refine own_row0 (#[.int .i64 0, .int .i64 0, .int .i64 0, .bool false]) hO rfl _ _ rfl rfl rfl (by kernel_rfl) rfl ?_ ?_); (· first | rfl | (simp [Value.oneCell']; done)); intro wR hOR hszR hkR; replace hO := hOR; clear hOR)
   )
  exact bodyPost_ret (results_ct1 Tryz.results109 _ _ _ _ _ _ rfl rfl hO.b0 Tryz.underlying36 rfl (by kernel_rfl)) rfl ⟨rfl, hO.below⟩
 ·
  go_enter Tryz.func109, Tryz.ntmps109
  go_wp2_with (first
   |(go_at_call 59; (with_reducible refine (h1 _).mono ?_); rintro e w1 ⟨rfl, rfl⟩)
   |(go_at_call 59; (with_reducible refine (h2 _).mono ?_); rintro e w2 ⟨rfl, rfl⟩)
   |((with_reducible refine own_row0 (#[.int .i64 0, .int .i64 0, .int .i64 0, .bool false]) hO rfl _ _ rfl rfl rfl (by kernel_rfl) rfl ?_ ?_); (· first | rfl | (simp [Value.oneCell']; done)); intro wR hOR hszR hkR; replace hO := hOR; clear hOR)
   )
  exact bodyPost_ret (results_ct1 Tryz.results109 _ _ _ _ _ _ rfl rfl hO.b0 Tryz.underlying36 rfl (by kernel_rfl)) rfl ⟨rfl, hO.below⟩
 ·
  go_enter Tryz.func109, Tryz.ntmps109
  go_wp2_with (first
   |(go_at_call 59; (with_reducible refine (h1 _).mono ?_); rintro e w1 ⟨rfl, rfl⟩)
   |(go_at_call 59; (with_reducible refine (h2 _).mono ?_); rintro e w2 ⟨rfl, rfl⟩)
   |((with_reducible refine own_row0 (#[.int .i64 (-1), .int .i64 a, .int .i64 b, .bool false]) hO rfl _ _ rfl rfl rfl (by kernel_rfl) rfl ?_ ?_); (· first | rfl | (simp [Value.oneCell']; done)); intro wR hOR hszR hkR; replace hO := hOR; clear hOR)
   )
  exact bodyPost_ret (results_ct1 Tryz.results109 _ _ _ _ _ _ rfl rfl hO.b0 Tryz.underlying36 rfl (by kernel_rfl)) rfl ⟨rfl, hO.below⟩
set_option maxHeartbeats 4000000 in
theorem rsmay_k (l a b : Int) (f : Bool) (w : World) : Calls Tryz.prog 58 #[.agg #[.int .i64 l, .int .i64 a, .int .i64 b, .bool f]] w fun e w' => e = .returned (.bool (stampMay l a b)) ∧ Below w.heap.size w w' := by
 have h1 := fun W => rtime_k a W
 have h2 := fun W => rtime_k b W
 have h3 := fun W => rtime_k l W
 have hO : Own w _ [_] := (Own.nil w).alloc 36 #[.int .i64 l, .int .i64 a, .int .i64 b, .bool f] _ rfl
 have hcl := hO.b0.cell
 unfold stampMay
 generalize timeP a = p at *
 generalize timeP b = q at *
 generalize timeP l = r at *
 cases p <;> cases q <;> cases r
 all_goals
  go_enter Tryz.func58, Tryz.ntmps58
  go_wp2_with (first
   |(go_at_call 59; (with_reducible refine (h1 _).mono ?_); rintro e w1 ⟨rfl, rfl⟩)
   |(go_at_call 59; (with_reducible refine (h2 _).mono ?_); rintro e w2 ⟨rfl, rfl⟩)
   |(go_at_call 59; (with_reducible refine (h3 _).mono ?_); rintro e w3 ⟨rfl, rfl⟩))
  go_ret
  refine ⟨?_, hO.below⟩
  by_cases h : l = -1 <;> simp [h]
theorem timeE_clock {last now : Int} (h : clockP now = false) : timeE last now = 1 := by unfold timeE; rw [if_pos h]
theorem timeE_full {last now : Int} (h : clockP now = true) (h2 : now * 8 + 7 ≤ last) : timeE last now = 3 := by unfold timeE; rw [if_neg (by rw [h]; simp), if_pos h2]
theorem timeE_ok {last now : Int} (h : clockP now = true) (h2 : ¬ now * 8 + 7 ≤ last) : timeE last now = 0 ∧ timeN last now = max (now * 8) (last + 1) := by
 have e : timeE last now = 0 := by unfold timeE; rw [if_neg (by rw [h]; simp), if_neg h2]
 exact ⟨e, by unfold timeN; rw [if_pos e]⟩
theorem timeN_no {last now : Int} (h : timeE last now ≠ 0) : timeN last now = 0 := by unfold timeN; rw [if_neg h]
set_option maxHeartbeats 4000000 in
theorem otime_k (last now : Int) (hlo : -9223372036854775808 ≤ last) (w : World) : Calls Tryz.prog 14 #[.int .i64 last, .int .i64 now] w fun e w' => e = .returned (.tuple #[.int .i64 (timeN last now), .int .i64 (timeE last now)]) ∧ w' = w := by
 by_cases h1 : now < 0
 ·
  have hc : clockP now = false := by unfold clockP; simp; omega
  rw [timeN_no (by rw [timeE_clock hc]; decide), timeE_clock hc]
  have f1 : decide (now < 0) = true := by simpa using h1
  go_enter Tryz.func14, Tryz.ntmps14
  go_wp2
  go_ret2
  exact ⟨rfl, rfl⟩
 have f1 : decide (now < 0) = false := by simpa using h1
 by_cases h2 : 268435456 < now
 ·
  have hc : clockP now = false := by unfold clockP; simp; omega
  rw [timeN_no (by rw [timeE_clock hc]; decide), timeE_clock hc]
  have f2 : decide (268435456 < now) = true := by simpa using h2
  go_enter Tryz.func14, Tryz.ntmps14
  go_wp2
  go_ret2
  exact ⟨rfl, rfl⟩
 have f2 : decide (268435456 < now) = false := by simpa using h2
 have hc : clockP now = true := by unfold clockP; simp; omega
 by_cases h3 : now * 8 + 7 ≤ last
 ·
  rw [timeN_no (by rw [timeE_full hc h3]; decide), timeE_full hc h3]
  have f3 : decide (now * 8 + 8 - 1 ≤ last) = true := by simp; omega
  have f4 : decide (now * 8 + 7 ≤ last) = true := by simpa using h3
  go_enter Tryz.func14, Tryz.ntmps14
  go_wp2
  go_ret2
  exact ⟨rfl, rfl⟩
 ·
  obtain ⟨e1, e2⟩ := timeE_ok hc h3
  rw [e2, e1]
  have f3 : decide (now * 8 + 8 - 1 ≤ last) = false := by simp; omega
  have f4 : decide (now * 8 + 7 ≤ last) = false := by simpa using h3
  have hw : wrap64 (last + 1) = last + 1 := by simp only [wrap64]; omega
  go_enter Tryz.func14, Tryz.ntmps14
  go_wp2
  go_ret2
  exact ⟨rfl, rfl⟩
set_option maxHeartbeats 4000000 in
theorem rttime_k (last now : Int) (w : World) : Calls Tryz.prog 15 #[.int .i64 last, .int .i64 now] w fun e w' => e = .returned (.tuple #[.int .i64 (timeN last now), .int .i64 (timeE last now)]) ∧ w' = w := by
 have ht := fun W => rtick_k now W
 cases hc : clockP now with
 | false =>
  rw [hc] at ht
  rw [timeN_no (by rw [timeE_clock hc]; decide), timeE_clock hc]
  go_enter Tryz.func15, Tryz.ntmps15
  go_wp2_with (first
   |(go_at_call 27; (with_reducible refine (ht _).mono ?_); rintro e w1 ⟨rfl, rfl⟩))
  go_ret2
  exact ⟨rfl, rfl⟩
 | true =>
  rw [hc] at ht
  have hb : 0 ≤ now ∧ now ≤ 268435456 := by unfold clockP at hc; simpa using hc
  have HC := Lib.hid hc
  clear hc
  go_enter Tryz.func15, Tryz.ntmps15
  go_wp2_with (first
   |(go_at_call 27; (with_reducible refine (ht _).mono ?_); rintro e w1 ⟨rfl, hw1⟩; obtain rfl := hw1.symm))
  go_loopw [7] (fun x wr => ∃ k : Nat, x = .int .i64 k ∧ k ≤ 8 ∧ Hid (∀ j : Nat, j < k → 8 * now + j ≤ last) ∧ wr = w) (fun x _ => 8 - (intOf x).toNat)
  case atStart => exact ⟨0, rfl, Nat.zero_le _, Lib.hid (fun j hj => by omega), rfl⟩
  case round =>
   obtain ⟨k, rfl, hk, hall, rfl⟩ := hrel
   by_cases hlt : k < 8
   ·
    have hdc : decide ((k : Int) < 8) = true := by simp; omega
    by_cases h1 : last < 8 * now + k
    ·
     have f1 : decide (last < 8 * now + k) = true := by simpa using h1
     have hno : ¬ now * 8 + 7 ≤ last := by omega
     obtain ⟨e1, e2⟩ := timeE_ok HC.out hno
     have hval : max (now * 8) (last + 1) = 8 * now + k := by
      rcases Nat.eq_zero_or_pos k with h0 | h0
      ·
       subst h0
       omega
      ·
       have := hall.out (k - 1) (by omega)
       omega
     rw [hval] at e2
     have HH := Lib.hid (And.intro e1 e2)
     clear hall e1 e2 hval hno
     go_wp2_with fail
     go_ret2
     exact ⟨by rw [HH.out.1, HH.out.2]; simp, rfl⟩
    ·
     have f1 : decide (last < 8 * now + k) = false := by simpa using h1
     have hall' := Lib.hid (fun (j : Nat) (hj : j < k + 1) => show 8 * now + j ≤ last by
      rcases Nat.lt_or_ge j k with g | g
      ·
       exact hall.out j g
      ·
       obtain rfl : j = k := by omega
       omega)
     clear hall
     go_wp2_with fail
     go_roundw
     case rel => exact ⟨k + 1, by go_num, by omega, hall', by first | rfl | trivial⟩
     case measure => simp [intOf]; omega
   ·
    obtain rfl : k = 8 := by omega
    have h7 := hall.out 7 (by omega)
    have hf : now * 8 + 7 ≤ last := by omega
    have HH := Lib.hid (And.intro (timeE_full HC.out hf) (timeN_no (by rw [timeE_full HC.out hf]; decide)))
    clear hall h7 hf
    go_wp2_with fail
    go_ret2
    exact ⟨by rw [HH.out.1, HH.out.2]; simp, rfl⟩
open Go.RowKit Go.Shelf
set_option maxRecDepth 8000 in
set_option maxHeartbeats 4000000 in
theorem rlmay0_k (x1 x2 x3 : Int) (w : World) : Calls Tryz.prog 164 #[.agg #[.int .i64 x1, .int .i64 x2, .int .i64 x3, .int .i64 0, .slice none 0 0]] w fun e w' => e = .returned (.bool (linkOk x1 x2 x3)) ∧ Below w.heap.size w w' := by
 have hO : Own w _ [_] := (Own.nil w).alloc 161 #[.int .i64 x1, .int .i64 x2, .int .i64 x3, .int .i64 0, .slice none 0 0] _ rfl
 have hcl := hO.b0.cell
 have ht : ∀ W : World, Calls Tryz.prog 59 #[.int .i64 0] W fun e w' => e = .returned (.bool true) ∧ w' = W := fun W => rtime_k 0 W
 have hok : linkOk x1 x2 x3 = (decide (1 ≤ x1) && decide (x1 ≤ 1048576) && decide (1 ≤ x3) && decide (x3 ≤ 1048576) && decide (0 ≤ x2) && decide (x2 ≤ 20)) := rfl
 generalize linkOk x1 x2 x3 = ok at *
 by_cases g0 : x1 < 1
 ·
  have f0 : decide (x1 < 1) = true := by simpa using g0
  obtain rfl : ok = false := by rw [hok]; simp; omega
  clear hok
  go_enter Tryz.func164, Tryz.ntmps164
  go_wp2_with (first
   |(go_at_call 59; (with_reducible refine (ht _).mono ?_); rintro e w1 ⟨rfl, hw1⟩; obtain rfl := hw1.symm))
  go_ret
  exact ⟨rfl, hO.below⟩
 have f0 : decide (x1 < 1) = false := by simpa using g0
 by_cases g1 : 1048576 < x1
 ·
  have f1 : decide (1048576 < x1) = true := by simpa using g1
  obtain rfl : ok = false := by rw [hok]; simp; omega
  clear hok
  go_enter Tryz.func164, Tryz.ntmps164
  go_wp2_with (first
   |(go_at_call 59; (with_reducible refine (ht _).mono ?_); rintro e w1 ⟨rfl, hw1⟩; obtain rfl := hw1.symm))
  go_ret
  exact ⟨rfl, hO.below⟩
 have f1 : decide (1048576 < x1) = false := by simpa using g1
 by_cases g2 : x2 < 0
 ·
  have f2 : decide (x2 < 0) = true := by simpa using g2
  obtain rfl : ok = false := by rw [hok]; simp; omega
  clear hok
  go_enter Tryz.func164, Tryz.ntmps164
  go_wp2_with (first
   |(go_at_call 59; (with_reducible refine (ht _).mono ?_); rintro e w1 ⟨rfl, hw1⟩; obtain rfl := hw1.symm))
  go_ret
  exact ⟨rfl, hO.below⟩
 have f2 : decide (x2 < 0) = false := by simpa using g2
 by_cases g3 : 20 < x2
 ·
  have f3 : decide (20 < x2) = true := by simpa using g3
  obtain rfl : ok = false := by rw [hok]; simp; omega
  clear hok
  go_enter Tryz.func164, Tryz.ntmps164
  go_wp2_with (first
   |(go_at_call 59; (with_reducible refine (ht _).mono ?_); rintro e w1 ⟨rfl, hw1⟩; obtain rfl := hw1.symm))
  go_ret
  exact ⟨rfl, hO.below⟩
 have f3 : decide (20 < x2) = false := by simpa using g3
 by_cases g4 : x3 < 1
 ·
  have f4 : decide (x3 < 1) = true := by simpa using g4
  obtain rfl : ok = false := by rw [hok]; simp; omega
  clear hok
  go_enter Tryz.func164, Tryz.ntmps164
  go_wp2_with (first
   |(go_at_call 59; (with_reducible refine (ht _).mono ?_); rintro e w1 ⟨rfl, hw1⟩; obtain rfl := hw1.symm))
  go_ret
  exact ⟨rfl, hO.below⟩
 have f4 : decide (x3 < 1) = false := by simpa using g4
 by_cases g5 : 1048576 < x3
 ·
  have f5 : decide (1048576 < x3) = true := by simpa using g5
  obtain rfl : ok = false := by rw [hok]; simp; omega
  clear hok
  go_enter Tryz.func164, Tryz.ntmps164
  go_wp2_with (first
   |(go_at_call 59; (with_reducible refine (ht _).mono ?_); rintro e w1 ⟨rfl, hw1⟩; obtain rfl := hw1.symm))
  go_ret
  exact ⟨rfl, hO.below⟩
 have f5 : decide (1048576 < x3) = false := by simpa using g5
 obtain rfl : ok = true := by rw [hok]; simp; omega
 clear hok
 go_enter Tryz.func164, Tryz.ntmps164
 go_wp2_with (first
  |(go_at_call 59; (with_reducible refine (ht _).mono ?_); rintro e w1 ⟨rfl, hw1⟩; obtain rfl := hw1.symm))
 refine wp_loop_rounds 1 ?_
 rw [rounds_succ]
 go_wp2_with fail
 go_ret
 exact ⟨rfl, hO.below⟩
set_option maxHeartbeats 2000000 in
theorem rlnew0_k (x1 x2 x3 : Int) (w : World) : Calls Tryz.prog 110 #[.int .i64 x1, .int .i64 x2, .int .i64 x3, .int .i64 0] w fun e w' => e = .returned (.tuple #[.agg (linkN x1 x2 x3), .int .i64 (if linkOk x1 x2 x3 = true then 0 else 1)]) ∧ Below w.heap.size w w' := by
 have hO : Own w _ [_, _] := Own.start2 w 161 161 #[.int .i64 0, .int .i64 0, .int .i64 0, .int .i64 0, .slice none 0 0] #[.int .i64 x1, .int .i64 x2, .int .i64 x3, .int .i64 0, .slice none 0 0]
 have hm := fun W => rlmay0_k x1 x2 x3 W
 unfold linkN
 cases hk : linkOk x1 x2 x3 with
 | false =>
  rw [hk] at hm
  simp only [Bool.false_eq_true, if_false]
  go_enter Tryz.func110, Tryz.ntmps110
  go_wp2_with (first
   |(go_at_call 164; (with_reducible refine (hm _).mono ?_); rintro e w1 ⟨rfl, hb1⟩; replace hO := hO.grow hb1; have hcl1 := hO.b1.cell)
   |((with_reducible refine own_row0 (#[.int .i64 0, .int .i64 0, .int .i64 0, .int .i64 0, .slice none 0 0]) hO rfl _ _ rfl rfl rfl (by kernel_rfl) rfl ?_ ?_); (· first | rfl | (simp [Value.oneCell']; done)); intro wR hOR hszR hkR; replace hO := hOR; clear hOR)
   )
  exact bodyPost_ret (results_ct1 Tryz.results110 _ _ _ _ _ _ rfl rfl hO.b0 Tryz.underlying161 rfl (by kernel_rfl)) rfl ⟨rfl, hO.below⟩
 | true =>
  rw [hk] at hm
  simp only [if_true]
  go_enter Tryz.func110, Tryz.ntmps110
  go_wp2_with (first
   |(go_at_call 164; (with_reducible refine (hm _).mono ?_); rintro e w1 ⟨rfl, hb1⟩; replace hO := hO.grow hb1; have hcl1 := hO.b1.cell)
   |((with_reducible refine own_row0 (#[.int .i64 x1, .int .i64 x2, .int .i64 x3, .int .i64 0, .slice none 0 0]) hO rfl _ _ rfl rfl rfl (by kernel_rfl) rfl ?_ ?_); (· first | rfl | (simp [Value.oneCell']; done)); intro wR hOR hszR hkR; replace hO := hOR; clear hOR)
   )
  exact bodyPost_ret (results_ct1 Tryz.results110 _ _ _ _ _ _ rfl rfl hO.b0 Tryz.underlying161 rfl (by kernel_rfl)) rfl ⟨rfl, hO.below⟩
set_option maxHeartbeats 4000000 in
theorem rrules_k (r : Rl) (w : World) : Calls Tryz.prog 57 #[.agg (rlC r)] w fun e w' => e = .returned (.bool (rulesP r)) ∧ Below w.heap.size w w' := by
 have hr := rules_is r
 have hO : Own w _ [_] := (Own.nil w).alloc 29 (rlC r) _ rfl
 obtain ⟨r1, r2, r3, r4, r5, r6, r7, r8, r9⟩ := r
 simp only [rlC] at hr hO ⊢
 have hcl := hO.b0.cell
 have hsn := fun W => rsnew_k r1 r2 W
 have hln := fun W => rlnew0_k r3 r4 r5 W
 have hs1 := fun W => rtick_k r6 W
 have hs2 := fun W => rtick_k r8 W
 have hs3 := fun W => rtick_k r9 W
 unfold stampN stampE at hsn
 unfold linkN at hln
 generalize rulesP ⟨r1, r2, r3, r4, r5, r6, r7, r8, r9⟩ = rr at *
 generalize (timeP r1 && timeP r2) = bA at *
 generalize linkOk r3 r4 r5 = bL at *
 generalize clockP r6 = c1 at *
 generalize clockP r8 = c2 at *
 generalize clockP r9 = c3 at *
 cases bA with
 | false =>
  obtain rfl : rr = false := by rw [hr]; simp
  clear hr
  simp only [Bool.false_eq_true, if_false] at hsn
  cases bL with
  | false =>
   simp only [Bool.false_eq_true, if_false] at hln
   go_enter Tryz.func57, Tryz.ntmps57
   go_wp2_with (first
    |(go_at_call 109; (with_reducible refine (hsn _).mono ?_); rintro e w1 ⟨rfl, hb1⟩; replace hO := Own.new1 (hO.grow hb1) 36 #[.int .i64 0, .int .i64 0, .int .i64 0, .bool false]; have hcl1 := hO.b0.cell)
    |(go_at_call 110; (with_reducible refine (hln _).mono ?_); rintro e w2 ⟨rfl, hb2⟩; replace hO := Own.new2 (hO.grow hb2) 161 #[.int .i64 0, .int .i64 0, .int .i64 0, .int .i64 0, .slice none 0 0]; have hcl2 := hO.b0.cell)
    |(go_at_call 27; (with_reducible refine (hs1 _).mono ?_); rintro e w3 ⟨rfl, rfl⟩)
    |(go_at_call 27; (with_reducible refine (hs2 _).mono ?_); rintro e w3 ⟨rfl, rfl⟩)
    |(go_at_call 27; (with_reducible refine (hs3 _).mono ?_); rintro e w3 ⟨rfl, rfl⟩))
   go_ret
   exact ⟨rfl, hO.below⟩
  | true =>
   simp only [if_true] at hln
   go_enter Tryz.func57, Tryz.ntmps57
   go_wp2_with (first
    |(go_at_call 109; (with_reducible refine (hsn _).mono ?_); rintro e w1 ⟨rfl, hb1⟩; replace hO := Own.new1 (hO.grow hb1) 36 #[.int .i64 0, .int .i64 0, .int .i64 0, .bool false]; have hcl1 := hO.b0.cell)
    |(go_at_call 110; (with_reducible refine (hln _).mono ?_); rintro e w2 ⟨rfl, hb2⟩; replace hO := Own.new2 (hO.grow hb2) 161 #[.int .i64 r3, .int .i64 r4, .int .i64 r5, .int .i64 0, .slice none 0 0]; have hcl2 := hO.b0.cell)
    |(go_at_call 27; (with_reducible refine (hs1 _).mono ?_); rintro e w3 ⟨rfl, rfl⟩)
    |(go_at_call 27; (with_reducible refine (hs2 _).mono ?_); rintro e w3 ⟨rfl, rfl⟩)
    |(go_at_call 27; (with_reducible refine (hs3 _).mono ?_); rintro e w3 ⟨rfl, rfl⟩))
   go_ret
   exact ⟨rfl, hO.below⟩
 | true =>
  simp only [if_true] at hsn
  cases bL with
  | false =>
   obtain rfl : rr = false := by rw [hr]; simp
   clear hr
   simp only [Bool.false_eq_true, if_false] at hln
   go_enter Tryz.func57, Tryz.ntmps57
   go_wp2_with (first
    |(go_at_call 109; (with_reducible refine (hsn _).mono ?_); rintro e w1 ⟨rfl, hb1⟩; replace hO := Own.new1 (hO.grow hb1) 36 #[.int .i64 (-1), .int .i64 r1, .int .i64 r2, .bool false]; have hcl1 := hO.b0.cell)
    |(go_at_call 110; (with_reducible refine (hln _).mono ?_); rintro e w2 ⟨rfl, hb2⟩; replace hO := Own.new2 (hO.grow hb2) 161 #[.int .i64 0, .int .i64 0, .int .i64 0, .int .i64 0, .slice none 0 0]; have hcl2 := hO.b0.cell)
    |(go_at_call 27; (with_reducible refine (hs1 _).mono ?_); rintro e w3 ⟨rfl, rfl⟩)
    |(go_at_call 27; (with_reducible refine (hs2 _).mono ?_); rintro e w3 ⟨rfl, rfl⟩)
    |(go_at_call 27; (with_reducible refine (hs3 _).mono ?_); rintro e w3 ⟨rfl, rfl⟩))
   go_ret
   exact ⟨rfl, hO.below⟩
  | true =>
   simp only [if_true] at hln
   cases c1 with
   | false =>
    obtain rfl : rr = false := by rw [hr]; simp
    clear hr
    go_enter Tryz.func57, Tryz.ntmps57
    go_wp2_with (first
     |(go_at_call 109; (with_reducible refine (hsn _).mono ?_); rintro e w1 ⟨rfl, hb1⟩; replace hO := Own.new1 (hO.grow hb1) 36 #[.int .i64 (-1), .int .i64 r1, .int .i64 r2, .bool false]; have hcl1 := hO.b0.cell)
     |(go_at_call 110; (with_reducible refine (hln _).mono ?_); rintro e w2 ⟨rfl, hb2⟩; replace hO := Own.new2 (hO.grow hb2) 161 #[.int .i64 r3, .int .i64 r4, .int .i64 r5, .int .i64 0, .slice none 0 0]; have hcl2 := hO.b0.cell)
     |(go_at_call 27; (with_reducible refine (hs1 _).mono ?_); rintro e w3 ⟨rfl, rfl⟩)
     |(go_at_call 27; (with_reducible refine (hs2 _).mono ?_); rintro e w3 ⟨rfl, rfl⟩)
     |(go_at_call 27; (with_reducible refine (hs3 _).mono ?_); rintro e w3 ⟨rfl, rfl⟩))
    go_ret
    exact ⟨rfl, hO.below⟩
   | true =>
   cases c2 with
   | false =>
    obtain rfl : rr = false := by rw [hr]; simp
    clear hr
    go_enter Tryz.func57, Tryz.ntmps57
    go_wp2_with (first
     |(go_at_call 109; (with_reducible refine (hsn _).mono ?_); rintro e w1 ⟨rfl, hb1⟩; replace hO := Own.new1 (hO.grow hb1) 36 #[.int .i64 (-1), .int .i64 r1, .int .i64 r2, .bool false]; have hcl1 := hO.b0.cell)
     |(go_at_call 110; (with_reducible refine (hln _).mono ?_); rintro e w2 ⟨rfl, hb2⟩; replace hO := Own.new2 (hO.grow hb2) 161 #[.int .i64 r3, .int .i64 r4, .int .i64 r5, .int .i64 0, .slice none 0 0]; have hcl2 := hO.b0.cell)
     |(go_at_call 27; (with_reducible refine (hs1 _).mono ?_); rintro e w3 ⟨rfl, rfl⟩)
     |(go_at_call 27; (with_reducible refine (hs2 _).mono ?_); rintro e w3 ⟨rfl, rfl⟩)
     |(go_at_call 27; (with_reducible refine (hs3 _).mono ?_); rintro e w3 ⟨rfl, rfl⟩))
    go_ret
    exact ⟨rfl, hO.below⟩
   | true =>
   cases c3 with
   | false =>
    obtain rfl : rr = false := by rw [hr]; simp
    clear hr
    go_enter Tryz.func57, Tryz.ntmps57
    go_wp2_with (first
     |(go_at_call 109; (with_reducible refine (hsn _).mono ?_); rintro e w1 ⟨rfl, hb1⟩; replace hO := Own.new1 (hO.grow hb1) 36 #[.int .i64 (-1), .int .i64 r1, .int .i64 r2, .bool false]; have hcl1 := hO.b0.cell)
     |(go_at_call 110; (with_reducible refine (hln _).mono ?_); rintro e w2 ⟨rfl, hb2⟩; replace hO := Own.new2 (hO.grow hb2) 161 #[.int .i64 r3, .int .i64 r4, .int .i64 r5, .int .i64 0, .slice none 0 0]; have hcl2 := hO.b0.cell)
     |(go_at_call 27; (with_reducible refine (hs1 _).mono ?_); rintro e w3 ⟨rfl, rfl⟩)
     |(go_at_call 27; (with_reducible refine (hs2 _).mono ?_); rintro e w3 ⟨rfl, rfl⟩)
     |(go_at_call 27; (with_reducible refine (hs3 _).mono ?_); rintro e w3 ⟨rfl, rfl⟩))
    go_ret
    exact ⟨rfl, hO.below⟩
   | true =>
   by_cases h6 : 0 ≤ r7
   ·
    have f6 : decide (0 ≤ r7) = true := by simpa using h6
    by_cases h7 : r7 ≤ 1099511627776
    ·
     have f7 : decide (r7 ≤ 1099511627776) = true := by simpa using h7
     obtain rfl : rr = true := by rw [hr, f6, f7]; rfl
     clear hr
     go_enter Tryz.func57, Tryz.ntmps57
     go_wp2_with (first
      |(go_at_call 109; (with_reducible refine (hsn _).mono ?_); rintro e w1 ⟨rfl, hb1⟩; replace hO := Own.new1 (hO.grow hb1) 36 #[.int .i64 (-1), .int .i64 r1, .int .i64 r2, .bool false]; have hcl1 := hO.b0.cell)
      |(go_at_call 110; (with_reducible refine (hln _).mono ?_); rintro e w2 ⟨rfl, hb2⟩; replace hO := Own.new2 (hO.grow hb2) 161 #[.int .i64 r3, .int .i64 r4, .int .i64 r5, .int .i64 0, .slice none 0 0]; have hcl2 := hO.b0.cell)
      |(go_at_call 27; (with_reducible refine (hs1 _).mono ?_); rintro e w3 ⟨rfl, rfl⟩)
      |(go_at_call 27; (with_reducible refine (hs2 _).mono ?_); rintro e w3 ⟨rfl, rfl⟩)
      |(go_at_call 27; (with_reducible refine (hs3 _).mono ?_); rintro e w3 ⟨rfl, rfl⟩))
     go_ret
     exact ⟨rfl, hO.below⟩
    ·
     have f7 : decide (r7 ≤ 1099511627776) = false := by simpa using h7
     obtain rfl : rr = false := by rw [hr, f6, f7]; rfl
     clear hr
     go_enter Tryz.func57, Tryz.ntmps57
     go_wp2_with (first
      |(go_at_call 109; (with_reducible refine (hsn _).mono ?_); rintro e w1 ⟨rfl, hb1⟩; replace hO := Own.new1 (hO.grow hb1) 36 #[.int .i64 (-1), .int .i64 r1, .int .i64 r2, .bool false]; have hcl1 := hO.b0.cell)
      |(go_at_call 110; (with_reducible refine (hln _).mono ?_); rintro e w2 ⟨rfl, hb2⟩; replace hO := Own.new2 (hO.grow hb2) 161 #[.int .i64 r3, .int .i64 r4, .int .i64 r5, .int .i64 0, .slice none 0 0]; have hcl2 := hO.b0.cell)
      |(go_at_call 27; (with_reducible refine (hs1 _).mono ?_); rintro e w3 ⟨rfl, rfl⟩)
      |(go_at_call 27; (with_reducible refine (hs2 _).mono ?_); rintro e w3 ⟨rfl, rfl⟩)
      |(go_at_call 27; (with_reducible refine (hs3 _).mono ?_); rintro e w3 ⟨rfl, rfl⟩))
     go_ret
     exact ⟨rfl, hO.below⟩
   ·
    have f6 : decide (0 ≤ r7) = false := by simpa using h6
    obtain rfl : rr = false := by rw [hr, f6]; rfl
    clear hr
    go_enter Tryz.func57, Tryz.ntmps57
    go_wp2_with (first
     |(go_at_call 109; (with_reducible refine (hsn _).mono ?_); rintro e w1 ⟨rfl, hb1⟩; replace hO := Own.new1 (hO.grow hb1) 36 #[.int .i64 (-1), .int .i64 r1, .int .i64 r2, .bool false]; have hcl1 := hO.b0.cell)
     |(go_at_call 110; (with_reducible refine (hln _).mono ?_); rintro e w2 ⟨rfl, hb2⟩; replace hO := Own.new2 (hO.grow hb2) 161 #[.int .i64 r3, .int .i64 r4, .int .i64 r5, .int .i64 0, .slice none 0 0]; have hcl2 := hO.b0.cell)
     |(go_at_call 27; (with_reducible refine (hs1 _).mono ?_); rintro e w3 ⟨rfl, rfl⟩)
     |(go_at_call 27; (with_reducible refine (hs2 _).mono ?_); rintro e w3 ⟨rfl, rfl⟩)
     |(go_at_call 27; (with_reducible refine (hs3 _).mono ?_); rintro e w3 ⟨rfl, rfl⟩))
    go_ret
    exact ⟨rfl, hO.below⟩
open Go.RowKit Go.Shelf
theorem rsteps0_k (A : Option Addr) (n c : Nat) (w : World) : Calls Tryz.prog 170 #[.slice A n c, .slice none 0 0] w fun e w' => e = .returned (.bool (decide (n = 0))) ∧ w' = w := by
 by_cases h : n = 0
 ·
  subst h
  go_enter Tryz.func170, Tryz.ntmps170
  go_wp2
  refine wp_loop_rounds 1 ?_
  rw [rounds_succ]
  go_wp2_with fail
  go_ret
  exact ⟨rfl, rfl⟩
 ·
  have f0 : ((n : Int) != 0) = true := by simpa using h
  have f1 : ((n : Int) == 0) = false := by simpa using h
  go_enter Tryz.func170, Tryz.ntmps170
  go_wp2
  go_ret
  exact ⟨by simp [h], rfl⟩
set_option maxHeartbeats 4000000 in
theorem rsame0_k (ma : Ma) (v : MaM) (w : World) (h : MaIs w ma v) : Calls Tryz.prog 115 #[.agg (maC ma v), .agg #[.int .i64 0, .bool false, .slice none 0 0, .slice none 0 0, .int .i64 0]] w fun e w' => e = .returned (.bool (blankP ma)) ∧ Below w.heap.size w w' := by
 have hO : Own w _ [_, _] := Own.start2 w 42 42 (maC ma v) #[.int .i64 0, .bool false, .slice none 0 0, .slice none 0 0, .int .i64 0]
 have hcl := hO.b0.cell
 have hcx := hO.b1.cell
 have hst := fun W => rsteps0_k v.A1 v.n1 v.c1 W
 have hb : blankP ma = (decide (ma.ref = 0) && !ma.rev && decide (v.n1 = 0) && decide (v.n2 = 0) && decide (ma.gap = 0)) := by
  unfold blankP
  rw [← h.e1, ← h.e2]
  cases ma.path <;> cases ma.sects <;> simp
 generalize blankP ma = bl at *
 clear h
 obtain ⟨m5, hm5⟩ : ∃ b, b = ma.rev := ⟨_, rfl⟩
 obtain ⟨gp, hgp⟩ : ∃ n, n = ma.gap := ⟨_, rfl⟩
 obtain ⟨rf, hrf⟩ : ∃ n, n = ma.ref := ⟨_, rfl⟩
 unfold maC at *
 simp only [← hm5, ← hgp, ← hrf] at hb hcl hO ⊢
 clear hm5 hgp hrf
 by_cases h1 : v.n1 = 0
 ·
  rw [decide_eq_true h1] at hst
  by_cases h2 : rf = 0
  ·
   subst h2
   cases m5 with
   | false =>
    by_cases h3 : gp = 0
    ·
     subst h3
     by_cases h4 : v.n2 = 0
     ·
      obtain rfl : bl = true := by rw [hb]; simp [h1, h4]
      have f4 : ((v.n2 : Int) != 0) = false := by simpa using h4
      have f5 : decide ((0 : Int) < (v.n2 : Int)) = false := by simp; omega
      have f6 : ((v.n2 : Int) == 0) = true := by simpa using h4
      have f7 : decide (0 < v.n2) = false := by simp; omega
      clear hb h1 h4
      go_enter Tryz.func115, Tryz.ntmps115
      go_wp2_with (first
       |(go_at_call 170; (with_reducible refine (hst _).mono ?_); rintro e w1 ⟨rfl, rfl⟩))
      refine wp_loop_rounds 1 ?_
      rw [rounds_succ]
      go_wp2_with fail
      go_ret
      exact ⟨rfl, hO.below⟩
     ·
      obtain rfl : bl = false := by rw [hb]; simp [h4]
      have f4 : ((v.n2 : Int) != 0) = true := by simpa using h4
      have f6 : ((v.n2 : Int) == 0) = false := by simpa using h4
      clear hb h1 h4
      go_enter Tryz.func115, Tryz.ntmps115
      go_wp2_with (first
       |(go_at_call 170; (with_reducible refine (hst _).mono ?_); rintro e w1 ⟨rfl, rfl⟩))
      go_ret
      exact ⟨rfl, hO.below⟩
    ·
     obtain rfl : bl = false := by rw [hb]; simp [h3]
     have f3 : (gp != 0) = true := by simpa using h3
     have f6 : (gp == 0) = false := by simpa using h3
     clear hb h1 h3
     go_enter Tryz.func115, Tryz.ntmps115
     go_wp2_with (first
      |(go_at_call 170; (with_reducible refine (hst _).mono ?_); rintro e w1 ⟨rfl, rfl⟩))
     go_ret
     exact ⟨rfl, hO.below⟩
   | true =>
    obtain rfl : bl = false := by rw [hb]; simp
    clear hb h1
    go_enter Tryz.func115, Tryz.ntmps115
    go_wp2_with (first
     |(go_at_call 170; (with_reducible refine (hst _).mono ?_); rintro e w1 ⟨rfl, rfl⟩))
    go_ret
    exact ⟨rfl, hO.below⟩
  ·
   obtain rfl : bl = false := by rw [hb]; simp [h2]
   have f2 : (rf != 0) = true := by simpa using h2
   have f6 : (rf == 0) = false := by simpa using h2
   clear hb h1 h2
   go_enter Tryz.func115, Tryz.ntmps115
   go_wp2_with (first
    |(go_at_call 170; (with_reducible refine (hst _).mono ?_); rintro e w1 ⟨rfl, rfl⟩))
   go_ret
   exact ⟨rfl, hO.below⟩
 ·
  rw [decide_eq_false h1] at hst
  obtain rfl : bl = false := by rw [hb]; simp [h1]
  clear hb h1
  go_enter Tryz.func115, Tryz.ntmps115
  go_wp2_with (first
   |(go_at_call 170; (with_reducible refine (hst _).mono ?_); rintro e w1 ⟨rfl, rfl⟩))
  go_ret
  exact ⟨rfl, hO.below⟩
theorem rnone_k (ma : Ma) (v : MaM) (w : World) (h : MaIs w ma v) : Calls Tryz.prog 63 #[.agg (maC ma v)] w fun e w' => e = .returned (.bool (blankP ma)) ∧ Below w.heap.size w w' := by
 have hO : Own w _ [_] := (Own.nil w).alloc 42 (maC ma v) _ rfl
 have hcl := hO.b0.cell
 have hsm := fun W (hW : Below w.heap.size w W) => rsame0_k ma v W (h.below hW)
 unfold maC at *
 go_enter Tryz.func63, Tryz.ntmps63
 go_wp2_with (first
  |(go_at_call 115; (with_reducible refine (hsm _ hO.below).mono ?_); rintro e w1 ⟨rfl, hb1⟩; replace hO := hO.grow hb1))
 go_ret
 exact ⟨rfl, hO.below⟩
end Go.Proofs.YtkaggddmhjifjaaGreatDoor
