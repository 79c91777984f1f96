/- Texts in one: BoardB BoardT. -/
import Derived.Test.YtkaggddmhjifjaaGreatDoorK13
set_option linter.unusedSimpArgs false
set_option linter.unusedVariables false
namespace Go.Proofs.YtkaggddmhjifjaaGreatDoor
open Go.RowKit Go.Shelf
set_option maxHeartbeats 2000000 in
theorem later0_k (n : Int) (w : World) : Calls Tryz.prog 264 #[.int .i64 n, .int .i64 0] w fun e w' => (∃ x : Int, e = .returned (.tuple #[.int .i64 x, .int .i64 (if timeP n = true then 0 else 7)])) ∧ w' = w := by
 have h1 := fun W => stime_k n W
 have h2 := fun W => stime_k 0 W
 have h0 : timeP 0 = true := by decide
 rw [h0] at h2
 cases ha : timeP n with
 | false =>
  rw [ha] at h1
  simp only [Bool.false_eq_true, if_false]
  go_enter Tryz.func264, Tryz.ntmps264
  go_wp2_with (first
   |(go_at_call 96; (with_reducible refine (h1 _).mono ?_); rintro e w1 ⟨rfl, rfl⟩))
  go_ret2
  exact ⟨⟨_, rfl⟩, rfl⟩
 | true =>
  have hb := ha
  unfold timeP at hb
  simp only [Bool.and_eq_true, decide_eq_true_eq] at hb
  obtain ⟨b1, b2⟩ := hb
  rw [ha] at h1
  simp only [if_true]
  clear ha
  go_enter Tryz.func264, Tryz.ntmps264
  go_wp2_with (first
   |(go_at_call 96; (with_reducible refine (h1 _).mono ?_); rintro e w1 ⟨rfl, rfl⟩)
   |(go_at_call 96; (with_reducible refine (h2 _).mono ?_); rintro e w1 ⟨rfl, rfl⟩))
  go_ret2
  exact ⟨⟨_, rfl⟩, rfl⟩
theorem ltime0_k (w : World) : Calls Tryz.prog 214 #[.int .i64 0] w fun e w' => e = .returned (.bool true) ∧ w' = w := by
 have h1 := fun W => later0_k 0 W
 have h0 : timeP 0 = true := by decide
 simp only [h0, if_true] at h1
 clear h0
 go_enter Tryz.func214, Tryz.ntmps214
 go_wp2_with (first
  |(go_at_call 264; (with_reducible refine (h1 _).mono ?_); rintro e w1 ⟨⟨x, rfl⟩, rfl⟩))
 go_ret
 exact ⟨rfl, rfl⟩
def linkOk (x1 x2 x3 : Int) : Bool := decide (1 ≤ x1) && decide (x1 ≤ 1048576) && decide (1 ≤ x3) && decide (x3 ≤ 1048576) && decide (0 ≤ x2) && decide (x2 ≤ 20)
set_option maxHeartbeats 2000000 in
theorem lmay0_k (x1 x2 x3 : Int) (w : World) : Calls Tryz.prog 158 #[.agg #[.int .i64 x1, .int .i64 x2, .int .i64 x3, .int .i64 0, .slice none 0 0]] w fun e w' => e = .returned (.bool (linkOk x1 x2 x3)) ∧ Below w.heap.size w w' := by
 have hO : Own w _ [_] := (Own.nil w).alloc 161 #[.int .i64 x1, .int .i64 x2, .int .i64 x3, .int .i64 0, .slice none 0 0] _ rfl
 have hcl := hO.b0.cell
 have ht := fun W => ltime0_k W
 have hok : linkOk x1 x2 x3 = (decide (1 ≤ x1) && decide (x1 ≤ 1048576) && decide (1 ≤ x3) && decide (x3 ≤ 1048576) && decide (0 ≤ x2) && decide (x2 ≤ 20)) := rfl
 generalize linkOk x1 x2 x3 = ok at *
 by_cases g0 : x1 < 1
 ·
  have f0 : decide (x1 < 1) = true := by simpa using g0
  obtain rfl : ok = false := by rw [hok]; simp; omega
  go_enter Tryz.func158, Tryz.ntmps158
  go_wp2
  go_ret
  exact ⟨rfl, hO.below⟩
 have f0 : decide (x1 < 1) = false := by simpa using g0
 by_cases g1 : 1048576 < x1
 ·
  have f1 : decide (1048576 < x1) = true := by simpa using g1
  obtain rfl : ok = false := by rw [hok]; simp; omega
  go_enter Tryz.func158, Tryz.ntmps158
  go_wp2
  go_ret
  exact ⟨rfl, hO.below⟩
 have f1 : decide (1048576 < x1) = false := by simpa using g1
 by_cases g2 : x3 < 1
 ·
  have f2 : decide (x3 < 1) = true := by simpa using g2
  obtain rfl : ok = false := by rw [hok]; simp; omega
  go_enter Tryz.func158, Tryz.ntmps158
  go_wp2
  go_ret
  exact ⟨rfl, hO.below⟩
 have f2 : decide (x3 < 1) = false := by simpa using g2
 by_cases g3 : 1048576 < x3
 ·
  have f3 : decide (1048576 < x3) = true := by simpa using g3
  obtain rfl : ok = false := by rw [hok]; simp; omega
  go_enter Tryz.func158, Tryz.ntmps158
  go_wp2
  go_ret
  exact ⟨rfl, hO.below⟩
 have f3 : decide (1048576 < x3) = false := by simpa using g3
 by_cases g4 : x2 < 0
 ·
  have f4 : decide (x2 < 0) = true := by simpa using g4
  obtain rfl : ok = false := by rw [hok]; simp; omega
  go_enter Tryz.func158, Tryz.ntmps158
  go_wp2
  go_ret
  exact ⟨rfl, hO.below⟩
 have f4 : decide (x2 < 0) = false := by simpa using g4
 by_cases g5 : 20 < x2
 ·
  have f5 : decide (20 < x2) = true := by simpa using g5
  obtain rfl : ok = false := by rw [hok]; simp; omega
  go_enter Tryz.func158, Tryz.ntmps158
  go_wp2
  go_ret
  exact ⟨rfl, hO.below⟩
 have f5 : decide (20 < x2) = false := by simpa using g5
 obtain rfl : ok = true := by rw [hok]; simp; omega
 clear hok
 go_enter Tryz.func158, Tryz.ntmps158
 go_wp2_with (first
  |(go_at_call 214; (with_reducible refine (ht _).mono ?_); rintro e w1 ⟨rfl, rfl⟩))
 refine wp_loop_rounds 1 ?_
 rw [rounds_succ]
 go_wp2_with fail
 go_ret
 exact ⟨rfl, hO.below⟩
def linkN (x1 x2 x3 : Int) : Array Value := if linkOk x1 x2 x3 = true then #[.int .i64 x1, .int .i64 x2, .int .i64 x3, .int .i64 0, .slice none 0 0] else #[.int .i64 0, .int .i64 0, .int .i64 0, .int .i64 0, .slice none 0 0]
set_option maxHeartbeats 2000000 in
theorem lnew0_k (x1 x2 x3 : Int) (w : World) : Calls Tryz.prog 94 #[.int .i64 x1, .int .i64 x2, .int .i64 x3, .int .i64 0] w fun e w' => e = .returned (.tuple #[.agg (linkN x1 x2 x3), .int .i64 (if linkOk x1 x2 x3 = true then 0 else 1)]) ∧ Below w.heap.size w w' := by
 have hO : Own w _ [_, _] := Own.start2 w 161 161 #[.int .i64 0, .int .i64 0, .int .i64 0, .int .i64 0, .slice none 0 0] #[.int .i64 x1, .int .i64 x2, .int .i64 x3, .int .i64 0, .slice none 0 0]
 have hm := fun W => lmay0_k x1 x2 x3 W
 unfold linkN
 cases hk : linkOk x1 x2 x3 with
 | false =>
  rw [hk] at hm
  simp only [Bool.false_eq_true, if_false]
  go_enter Tryz.func94, Tryz.ntmps94
  go_wp2_with (first
   |(go_at_call 158; (with_reducible refine (hm _).mono ?_); rintro e w1 ⟨rfl, hb1⟩; replace hO := hO.grow hb1; have hcl1 := hO.b1.cell)
   |((with_reducible refine own_row0 (#[.int .i64 0, .int .i64 0, .int .i64 0, .int .i64 0, .slice none 0 0]) hO rfl _ _ rfl rfl rfl (by kernel_rfl) rfl ?_ ?_); (· first | rfl | (simp [Value.oneCell']; done)); intro wR hOR hszR hkR; replace hO := hOR; clear hOR)
   )
  exact bodyPost_ret (results_ct1 Tryz.results94 _ _ _ _ _ _ rfl rfl hO.b0 Tryz.underlying161 rfl (by kernel_rfl)) rfl ⟨rfl, hO.below⟩
 | true =>
  rw [hk] at hm
  simp only [if_true]
  go_enter Tryz.func94, Tryz.ntmps94
  go_wp2_with (first
   |(go_at_call 158; (with_reducible refine (hm _).mono ?_); rintro e w1 ⟨rfl, hb1⟩; replace hO := hO.grow hb1; have hcl1 := hO.b1.cell)
   |((with_reducible refine own_row0 (#[.int .i64 x1, .int .i64 x2, .int .i64 x3, .int .i64 0, .slice none 0 0]) hO rfl _ _ rfl rfl rfl (by kernel_rfl) rfl ?_ ?_); (· first | rfl | (simp [Value.oneCell']; done)); intro wR hOR hszR hkR; replace hO := hOR; clear hOR)
   )
  exact bodyPost_ret (results_ct1 Tryz.results94 _ _ _ _ _ _ rfl rfl hO.b0 Tryz.underlying161 rfl (by kernel_rfl)) rfl ⟨rfl, hO.below⟩
theorem rules_is (r : Rl) : rulesP r = ((timeP r.ahead && timeP r.behind) && linkOk r.period r.most r.quiet && clockP r.quarantine && clockP r.skew && clockP r.lend && decide (0 ≤ r.brake) && decide (r.brake ≤ 1099511627776)) := by
 unfold rulesP linkOk
 simp only [Bool.and_assoc]
abbrev rlC (r : Rl) : Array Value := #[.int .i64 r.ahead, .int .i64 r.behind, .int .i64 r.period, .int .i64 r.most, .int .i64 r.quiet, .int .i64 r.quarantine, .int .i64 r.brake, .int .i64 r.skew, .int .i64 r.lend]
set_option maxHeartbeats 4000000 in
theorem rules_k (r : Rl) (w : World) : Calls Tryz.prog 46 #[.agg (rlC r)] w fun e w' => e = .returned (.bool (rulesP r)) ∧ Below w.heap.size w w' := by
 have hr := rules_is r
 have hO : Own w _ [_] := (Own.nil w).alloc 29 (rlC r) _ rfl
 obtain ⟨r1, r2, r3, r4, r5, r6, r7, r8, r9⟩ := r
 simp only [rlC] at hr hO ⊢
 have hcl := hO.b0.cell
 have hsn := fun W => snew_k r1 r2 W
 have hln := fun W => lnew0_k r3 r4 r5 W
 have hs1 := fun W => clock_k r6 W
 have hs2 := fun W => clock_k r8 W
 have hs3 := fun W => clock_k r9 W
 unfold stampN stampE at hsn
 unfold linkN at hln
 generalize rulesP ⟨r1, r2, r3, r4, r5, r6, r7, r8, r9⟩ = rr at *
 generalize (timeP r1 && timeP r2) = bA at *
 generalize linkOk r3 r4 r5 = bL at *
 generalize clockP r6 = c1 at *
 generalize clockP r8 = c2 at *
 generalize clockP r9 = c3 at *
 cases bA with
 | false =>
  obtain rfl : rr = false := by rw [hr]; simp
  clear hr
  simp only [Bool.false_eq_true, if_false] at hsn
  cases bL with
  | false =>
   simp only [Bool.false_eq_true, if_false] at hln
   go_enter Tryz.func46, Tryz.ntmps46
   go_wp2_with (first
    |(go_at_call 72; (with_reducible refine (hsn _).mono ?_); rintro e w1 ⟨rfl, hb1⟩; replace hO := Own.new1 (hO.grow hb1) 36 #[.int .i64 0, .int .i64 0, .int .i64 0, .bool false]; have hcl1 := hO.b0.cell)
    |(go_at_call 94; (with_reducible refine (hln _).mono ?_); rintro e w2 ⟨rfl, hb2⟩; replace hO := Own.new2 (hO.grow hb2) 161 #[.int .i64 0, .int .i64 0, .int .i64 0, .int .i64 0, .slice none 0 0]; have hcl2 := hO.b0.cell)
    |(go_at_call 95; (with_reducible refine (hs1 _).mono ?_); rintro e w3 ⟨rfl, rfl⟩)
    |(go_at_call 95; (with_reducible refine (hs2 _).mono ?_); rintro e w3 ⟨rfl, rfl⟩)
    |(go_at_call 95; (with_reducible refine (hs3 _).mono ?_); rintro e w3 ⟨rfl, rfl⟩))
   go_ret
   exact ⟨rfl, hO.below⟩
  | true =>
   simp only [if_true] at hln
   go_enter Tryz.func46, Tryz.ntmps46
   go_wp2_with (first
    |(go_at_call 72; (with_reducible refine (hsn _).mono ?_); rintro e w1 ⟨rfl, hb1⟩; replace hO := Own.new1 (hO.grow hb1) 36 #[.int .i64 0, .int .i64 0, .int .i64 0, .bool false]; have hcl1 := hO.b0.cell)
    |(go_at_call 94; (with_reducible refine (hln _).mono ?_); rintro e w2 ⟨rfl, hb2⟩; replace hO := Own.new2 (hO.grow hb2) 161 #[.int .i64 r3, .int .i64 r4, .int .i64 r5, .int .i64 0, .slice none 0 0]; have hcl2 := hO.b0.cell)
    |(go_at_call 95; (with_reducible refine (hs1 _).mono ?_); rintro e w3 ⟨rfl, rfl⟩)
    |(go_at_call 95; (with_reducible refine (hs2 _).mono ?_); rintro e w3 ⟨rfl, rfl⟩)
    |(go_at_call 95; (with_reducible refine (hs3 _).mono ?_); rintro e w3 ⟨rfl, rfl⟩))
   go_ret
   exact ⟨rfl, hO.below⟩
 | true =>
  simp only [if_true] at hsn
  cases bL with
  | false =>
   obtain rfl : rr = false := by rw [hr]; simp
   clear hr
   simp only [Bool.false_eq_true, if_false] at hln
   go_enter Tryz.func46, Tryz.ntmps46
   go_wp2_with (first
    |(go_at_call 72; (with_reducible refine (hsn _).mono ?_); rintro e w1 ⟨rfl, hb1⟩; replace hO := Own.new1 (hO.grow hb1) 36 #[.int .i64 (-1), .int .i64 r1, .int .i64 r2, .bool false]; have hcl1 := hO.b0.cell)
    |(go_at_call 94; (with_reducible refine (hln _).mono ?_); rintro e w2 ⟨rfl, hb2⟩; replace hO := Own.new2 (hO.grow hb2) 161 #[.int .i64 0, .int .i64 0, .int .i64 0, .int .i64 0, .slice none 0 0]; have hcl2 := hO.b0.cell)
    |(go_at_call 95; (with_reducible refine (hs1 _).mono ?_); rintro e w3 ⟨rfl, rfl⟩)
    |(go_at_call 95; (with_reducible refine (hs2 _).mono ?_); rintro e w3 ⟨rfl, rfl⟩)
    |(go_at_call 95; (with_reducible refine (hs3 _).mono ?_); rintro e w3 ⟨rfl, rfl⟩))
   go_ret
   exact ⟨rfl, hO.below⟩
  | true =>
   simp only [if_true] at hln
   cases c1 with
   | false =>
    obtain rfl : rr = false := by rw [hr]; simp
    clear hr
    go_enter Tryz.func46, Tryz.ntmps46
    go_wp2_with (first
     |(go_at_call 72; (with_reducible refine (hsn _).mono ?_); rintro e w1 ⟨rfl, hb1⟩; replace hO := Own.new1 (hO.grow hb1) 36 #[.int .i64 (-1), .int .i64 r1, .int .i64 r2, .bool false]; have hcl1 := hO.b0.cell)
     |(go_at_call 94; (with_reducible refine (hln _).mono ?_); rintro e w2 ⟨rfl, hb2⟩; replace hO := Own.new2 (hO.grow hb2) 161 #[.int .i64 r3, .int .i64 r4, .int .i64 r5, .int .i64 0, .slice none 0 0]; have hcl2 := hO.b0.cell)
     |(go_at_call 95; (with_reducible refine (hs1 _).mono ?_); rintro e w3 ⟨rfl, rfl⟩)
     |(go_at_call 95; (with_reducible refine (hs2 _).mono ?_); rintro e w3 ⟨rfl, rfl⟩)
     |(go_at_call 95; (with_reducible refine (hs3 _).mono ?_); rintro e w3 ⟨rfl, rfl⟩))
    go_ret
    exact ⟨rfl, hO.below⟩
   | true =>
   cases c2 with
   | false =>
    obtain rfl : rr = false := by rw [hr]; simp
    clear hr
    go_enter Tryz.func46, Tryz.ntmps46
    go_wp2_with (first
     |(go_at_call 72; (with_reducible refine (hsn _).mono ?_); rintro e w1 ⟨rfl, hb1⟩; replace hO := Own.new1 (hO.grow hb1) 36 #[.int .i64 (-1), .int .i64 r1, .int .i64 r2, .bool false]; have hcl1 := hO.b0.cell)
     |(go_at_call 94; (with_reducible refine (hln _).mono ?_); rintro e w2 ⟨rfl, hb2⟩; replace hO := Own.new2 (hO.grow hb2) 161 #[.int .i64 r3, .int .i64 r4, .int .i64 r5, .int .i64 0, .slice none 0 0]; have hcl2 := hO.b0.cell)
     |(go_at_call 95; (with_reducible refine (hs1 _).mono ?_); rintro e w3 ⟨rfl, rfl⟩)
     |(go_at_call 95; (with_reducible refine (hs2 _).mono ?_); rintro e w3 ⟨rfl, rfl⟩)
     |(go_at_call 95; (with_reducible refine (hs3 _).mono ?_); rintro e w3 ⟨rfl, rfl⟩))
    go_ret
    exact ⟨rfl, hO.below⟩
   | true =>
   cases c3 with
   | false =>
    obtain rfl : rr = false := by rw [hr]; simp
    clear hr
    go_enter Tryz.func46, Tryz.ntmps46
    go_wp2_with (first
     |(go_at_call 72; (with_reducible refine (hsn _).mono ?_); rintro e w1 ⟨rfl, hb1⟩; replace hO := Own.new1 (hO.grow hb1) 36 #[.int .i64 (-1), .int .i64 r1, .int .i64 r2, .bool false]; have hcl1 := hO.b0.cell)
     |(go_at_call 94; (with_reducible refine (hln _).mono ?_); rintro e w2 ⟨rfl, hb2⟩; replace hO := Own.new2 (hO.grow hb2) 161 #[.int .i64 r3, .int .i64 r4, .int .i64 r5, .int .i64 0, .slice none 0 0]; have hcl2 := hO.b0.cell)
     |(go_at_call 95; (with_reducible refine (hs1 _).mono ?_); rintro e w3 ⟨rfl, rfl⟩)
     |(go_at_call 95; (with_reducible refine (hs2 _).mono ?_); rintro e w3 ⟨rfl, rfl⟩)
     |(go_at_call 95; (with_reducible refine (hs3 _).mono ?_); rintro e w3 ⟨rfl, rfl⟩))
    go_ret
    exact ⟨rfl, hO.below⟩
   | true =>
   by_cases h6 : 0 ≤ r7
   ·
    have f6 : decide (0 ≤ r7) = true := by simpa using h6
    by_cases h7 : r7 ≤ 1099511627776
    ·
     have f7 : decide (r7 ≤ 1099511627776) = true := by simpa using h7
     obtain rfl : rr = true := by rw [hr, f6, f7]; rfl
     clear hr
     go_enter Tryz.func46, Tryz.ntmps46
     go_wp2_with (first
      |(go_at_call 72; (with_reducible refine (hsn _).mono ?_); rintro e w1 ⟨rfl, hb1⟩; replace hO := Own.new1 (hO.grow hb1) 36 #[.int .i64 (-1), .int .i64 r1, .int .i64 r2, .bool false]; have hcl1 := hO.b0.cell)
      |(go_at_call 94; (with_reducible refine (hln _).mono ?_); rintro e w2 ⟨rfl, hb2⟩; replace hO := Own.new2 (hO.grow hb2) 161 #[.int .i64 r3, .int .i64 r4, .int .i64 r5, .int .i64 0, .slice none 0 0]; have hcl2 := hO.b0.cell)
      |(go_at_call 95; (with_reducible refine (hs1 _).mono ?_); rintro e w3 ⟨rfl, rfl⟩)
      |(go_at_call 95; (with_reducible refine (hs2 _).mono ?_); rintro e w3 ⟨rfl, rfl⟩)
      |(go_at_call 95; (with_reducible refine (hs3 _).mono ?_); rintro e w3 ⟨rfl, rfl⟩))
     go_ret
     exact ⟨rfl, hO.below⟩
    ·
     have f7 : decide (r7 ≤ 1099511627776) = false := by simpa using h7
     obtain rfl : rr = false := by rw [hr, f6, f7]; rfl
     clear hr
     go_enter Tryz.func46, Tryz.ntmps46
     go_wp2_with (first
      |(go_at_call 72; (with_reducible refine (hsn _).mono ?_); rintro e w1 ⟨rfl, hb1⟩; replace hO := Own.new1 (hO.grow hb1) 36 #[.int .i64 (-1), .int .i64 r1, .int .i64 r2, .bool false]; have hcl1 := hO.b0.cell)
      |(go_at_call 94; (with_reducible refine (hln _).mono ?_); rintro e w2 ⟨rfl, hb2⟩; replace hO := Own.new2 (hO.grow hb2) 161 #[.int .i64 r3, .int .i64 r4, .int .i64 r5, .int .i64 0, .slice none 0 0]; have hcl2 := hO.b0.cell)
      |(go_at_call 95; (with_reducible refine (hs1 _).mono ?_); rintro e w3 ⟨rfl, rfl⟩)
      |(go_at_call 95; (with_reducible refine (hs2 _).mono ?_); rintro e w3 ⟨rfl, rfl⟩)
      |(go_at_call 95; (with_reducible refine (hs3 _).mono ?_); rintro e w3 ⟨rfl, rfl⟩))
     go_ret
     exact ⟨rfl, hO.below⟩
   ·
    have f6 : decide (0 ≤ r7) = false := by simpa using h6
    obtain rfl : rr = false := by rw [hr, f6]; rfl
    clear hr
    go_enter Tryz.func46, Tryz.ntmps46
    go_wp2_with (first
     |(go_at_call 72; (with_reducible refine (hsn _).mono ?_); rintro e w1 ⟨rfl, hb1⟩; replace hO := Own.new1 (hO.grow hb1) 36 #[.int .i64 (-1), .int .i64 r1, .int .i64 r2, .bool false]; have hcl1 := hO.b0.cell)
     |(go_at_call 94; (with_reducible refine (hln _).mono ?_); rintro e w2 ⟨rfl, hb2⟩; replace hO := Own.new2 (hO.grow hb2) 161 #[.int .i64 r3, .int .i64 r4, .int .i64 r5, .int .i64 0, .slice none 0 0]; have hcl2 := hO.b0.cell)
     |(go_at_call 95; (with_reducible refine (hs1 _).mono ?_); rintro e w3 ⟨rfl, rfl⟩)
     |(go_at_call 95; (with_reducible refine (hs2 _).mono ?_); rintro e w3 ⟨rfl, rfl⟩)
     |(go_at_call 95; (with_reducible refine (hs3 _).mono ?_); rintro e w3 ⟨rfl, rfl⟩))
    go_ret
    exact ⟨rfl, hO.below⟩
end Go.Proofs.YtkaggddmhjifjaaGreatDoor
set_option linter.unusedSimpArgs false
set_option linter.unusedVariables false
namespace Go.Proofs.YtkaggddmhjifjaaGreatDoor
open Go.RowKit Go.Shelf
structure Pr19 where
 k0 : BitVec 32
 k1 : BitVec 32
 k2 : BitVec 32
 k3 : BitVec 32
 state : Int
 a : BitVec 32
 b : BitVec 32
 j0 : BitVec 32
 j1 : BitVec 32
 j2 : BitVec 32
 j3 : BitVec 32
 half : Bool
 a2 : BitVec 32
 b2 : BitVec 32
structure TrM where
 q : Pr19
 nx : BitVec 32
 v : MaM
 A3 : Option Addr
 n3 : Nat
 c3 : Nat
def trC (x : Tr) (m : TrM) : Array Value := #[.int .i64 x.id, .int .i64 x.len, .int .i64 x.rl.ahead, .int .i64 x.rl.behind, .int .i64 x.rl.period, .int .i64 x.rl.most, .int .i64 x.rl.quiet, .int .i64 x.rl.quarantine, .int .i64 x.rl.brake, .int .i64 x.rl.skew, .int .i64 x.rl.lend, .int .i64 x.side, .int .i64 x.train, q32 m.q.k0, q32 m.q.k1, q32 m.q.k2, q32 m.q.k3, .int .i64 m.q.state, q32 m.q.a, q32 m.q.b, q32 m.q.j0, q32 m.q.j1, q32 m.q.j2, q32 m.q.j3, .bool m.q.half, q32 m.q.a2, q32 m.q.b2, q32 m.nx, .int .i64 x.sl, .int .i64 x.sa, .int .i64 x.sb, .bool x.free, .int .i64 x.last, .bool x.on, .int .i64 x.pos.edge, .int .i64 x.pos.at_, .bool x.pos.rev, .int .i64 x.ref, .int .i64 x.past, .bool x.rev, .int .i64 x.ma.ref, .bool x.ma.rev, .slice m.v.A1 m.v.n1 m.v.c1, .slice m.v.A2 m.v.n2 m.v.c2, .int .i64 x.ma.gap, .int .i64 x.at_, .bool x.held, .slice m.A3 m.n3 m.c3]
structure TrIs (w : World) (x : Tr) (m : TrM) : Prop where
 ma : MaIs w x.ma m.v
 stops : RowsAt encI w m.A3 x.stops
 e3 : x.stops.length = m.n3
 l3 : m.n3 ≤ 100
 q3 : m.n3 ≤ m.c3
theorem TrIs.below {w w' : World} {x : Tr} {m : TrM} (h : TrIs w x m) (hb : Below w.heap.size w w') : TrIs w' x m := { h with ma := h.ma.below hb, stops := h.stops.below hb }
theorem trC_size (x : Tr) (m : TrM) : (trC x m).size = 48 := rfl
theorem trC_info (x : Tr) (m : TrM) : (Tryz.prog.info? 44).map (·.size) = some (trC x m).size := by
 rw [trC_size]
 kernel_rfl
theorem trC_ones (x : Tr) (m : TrM) : (trC x m).all (·.oneCell') = true := by
 simp [trC, Value.oneCell', q32]
theorem tr0 (x : Tr) (m : TrM) : (trC x m)[0]? = some (.int .i64 x.id) := rfl
theorem tr1 (x : Tr) (m : TrM) : (trC x m)[1]? = some (.int .i64 x.len) := rfl
theorem tr2 (x : Tr) (m : TrM) : (trC x m)[2]? = some (.int .i64 x.rl.ahead) := rfl
theorem tr3 (x : Tr) (m : TrM) : (trC x m)[3]? = some (.int .i64 x.rl.behind) := rfl
theorem tr4 (x : Tr) (m : TrM) : (trC x m)[4]? = some (.int .i64 x.rl.period) := rfl
theorem tr5 (x : Tr) (m : TrM) : (trC x m)[5]? = some (.int .i64 x.rl.most) := rfl
theorem tr6 (x : Tr) (m : TrM) : (trC x m)[6]? = some (.int .i64 x.rl.quiet) := rfl
theorem tr7 (x : Tr) (m : TrM) : (trC x m)[7]? = some (.int .i64 x.rl.quarantine) := rfl
theorem tr8 (x : Tr) (m : TrM) : (trC x m)[8]? = some (.int .i64 x.rl.brake) := rfl
theorem tr9 (x : Tr) (m : TrM) : (trC x m)[9]? = some (.int .i64 x.rl.skew) := rfl
theorem tr10 (x : Tr) (m : TrM) : (trC x m)[10]? = some (.int .i64 x.rl.lend) := rfl
theorem tr11 (x : Tr) (m : TrM) : (trC x m)[11]? = some (.int .i64 x.side) := rfl
theorem tr12 (x : Tr) (m : TrM) : (trC x m)[12]? = some (.int .i64 x.train) := rfl
theorem tr28 (x : Tr) (m : TrM) : (trC x m)[28]? = some (.int .i64 x.sl) := rfl
theorem tr29 (x : Tr) (m : TrM) : (trC x m)[29]? = some (.int .i64 x.sa) := rfl
theorem tr30 (x : Tr) (m : TrM) : (trC x m)[30]? = some (.int .i64 x.sb) := rfl
theorem tr31 (x : Tr) (m : TrM) : (trC x m)[31]? = some (.bool x.free) := rfl
theorem tr32 (x : Tr) (m : TrM) : (trC x m)[32]? = some (.int .i64 x.last) := rfl
theorem tr33 (x : Tr) (m : TrM) : (trC x m)[33]? = some (.bool x.on) := rfl
theorem tr34 (x : Tr) (m : TrM) : (trC x m)[34]? = some (.int .i64 x.pos.edge) := rfl
theorem tr35 (x : Tr) (m : TrM) : (trC x m)[35]? = some (.int .i64 x.pos.at_) := rfl
theorem tr36 (x : Tr) (m : TrM) : (trC x m)[36]? = some (.bool x.pos.rev) := rfl
theorem tr37 (x : Tr) (m : TrM) : (trC x m)[37]? = some (.int .i64 x.ref) := rfl
theorem tr38 (x : Tr) (m : TrM) : (trC x m)[38]? = some (.int .i64 x.past) := rfl
theorem tr39 (x : Tr) (m : TrM) : (trC x m)[39]? = some (.bool x.rev) := rfl
theorem tr40 (x : Tr) (m : TrM) : (trC x m)[40]? = some (.int .i64 x.ma.ref) := rfl
theorem tr41 (x : Tr) (m : TrM) : (trC x m)[41]? = some (.bool x.ma.rev) := rfl
theorem tr42 (x : Tr) (m : TrM) : (trC x m)[42]? = some (.slice m.v.A1 m.v.n1 m.v.c1) := rfl
theorem tr43 (x : Tr) (m : TrM) : (trC x m)[43]? = some (.slice m.v.A2 m.v.n2 m.v.c2) := rfl
theorem tr44 (x : Tr) (m : TrM) : (trC x m)[44]? = some (.int .i64 x.ma.gap) := rfl
theorem tr45 (x : Tr) (m : TrM) : (trC x m)[45]? = some (.int .i64 x.at_) := rfl
theorem tr46 (x : Tr) (m : TrM) : (trC x m)[46]? = some (.bool x.held) := rfl
theorem tr47 (x : Tr) (m : TrM) : (trC x m)[47]? = some (.slice m.A3 m.n3 m.c3) := rfl
end Go.Proofs.YtkaggddmhjifjaaGreatDoor
