/- Texts in one: DocMay19A. -/
import Derived.Test.YtkaggddmhjifjaaGreatDoorK34
import Derived.Test.YtkaggddmhjifjaaGreatDoorK35
import Derived.Test.YtkaggddmhjifjaaGreatDoorK15
import Derived.Test.YtkaggddmhjifjaaGreatDoorK37
import Derived.Test.YtkaggddmhjifjaaGreatDoorK30
set_option linter.unusedSimpArgs false
set_option linter.unusedVariables false
namespace Go.Proofs.YtkaggddmhjifjaaGreatDoor
open Go.RowKit Go.Shelf
set_option maxRecDepth 8000 in
set_option maxHeartbeats 32000000 in
theorem rmay19_a {w : World} {t : Tp} {m : TpM} (h : TpIs w t m) (x : Tr) (xm : TrM) (hx : TrIs w x xm) (hla : timeP x.last = true) : Calls Tryz.prog 23 #[.agg m.cells, .agg (trC x xm)] w fun e w' => e = .returned (.bool (mayX t x)) ∧ Below w.heap.size w w' := by
 skip
 have hO : Own w _ [_, _] := Own.start2 w 27 44 m.cells (trC x xm)
 have hcl := hO.b0.cell
 have hcx := hO.b1.cell
 have hru := fun W => rrules_k x.rl W
 have hsm := fun W => rsmay_k x.sl x.sa x.sb x.free W
 have hti := fun W => rtime_k x.last W
 have htk := fun W => rtick_k x.at_ W
 have hri := fun W (hW : Below w.heap.size w W) => rright_m (h.below hW) x.pos
 have hbal := fun W (hW : Below w.heap.size w W) => rbal_m (h.below hW) x.ref
 have hpm := fun W (hW : Below w.heap.size w W) => rmay17_m (h.below hW) x.ma xm.v (hx.ma.below hW)
 have hbl := fun W (hW : Below w.heap.size w W) => rnone_k x.ma xm.v W (hx.ma.below hW)
 have hM := mayX_iff t x
 have hat : clockP x.at_ = true ↔ 0 ≤ x.at_ ∧ x.at_ ≤ 268435456 := by unfold clockP; simp
 have hlast' : -1 ≤ x.last ∧ x.last ≤ 4294967294 := by
  unfold timeP at hla; simp at hla; omega
 rw [hla] at hti
 generalize mayX t x = mx at *
 generalize rulesP x.rl = ru at *
 generalize stampMay x.sl x.sa x.sb = sm at *
 generalize rightT t x.pos = ri at *
 generalize hrs : risingP (-1) x.stops = rs at *
 generalize mayP t x.ma = pm at *
 generalize blankP x.ma = bl at *
 generalize (balT t x.ref).isSome = ib at *
 generalize hy : (balT t x.ref).getD ⟨0, 0, 0⟩ = y at *
 generalize clockP x.at_ = ck at *
 obtain ⟨y1, y2, y3⟩ := y
 have HM := Lib.hid hM
 have HRS := Lib.hid hrs.symm
 have HAT := Lib.hid hat
 have HLA := Lib.hid hlast'
 clear hM hy hrs hat hlast' hla
 have t0 := tr0 x xm
 have t1 := tr1 x xm
 have t2 := tr2 x xm
 have t3 := tr3 x xm
 have t4 := tr4 x xm
 have t5 := tr5 x xm
 have t6 := tr6 x xm
 have t7 := tr7 x xm
 have t8 := tr8 x xm
 have t9 := tr9 x xm
 have t10 := tr10 x xm
 have t11 := tr11 x xm
 have t12 := tr12 x xm
 have t28 := tr28 x xm
 have t29 := tr29 x xm
 have t30 := tr30 x xm
 have t31 := tr31 x xm
 have t32 := tr32 x xm
 have t33 := tr33 x xm
 have t34 := tr34 x xm
 have t35 := tr35 x xm
 have t36 := tr36 x xm
 have t37 := tr37 x xm
 have t38 := tr38 x xm
 have t39 := tr39 x xm
 have t40 := tr40 x xm
 have t41 := tr41 x xm
 have t42 := tr42 x xm
 have t43 := tr43 x xm
 have t44 := tr44 x xm
 have t45 := tr45 x xm
 have t46 := tr46 x xm
 have t47 := tr47 x xm
 unfold maC at hpm hbl
 unfold TpM.cells at *
 cases ru with
 | false =>
  obtain rfl : mx = false := Bool.eq_false_iff.2 fun hh => by
   obtain ⟨⟨k1, k2, k3, k4, k5, k6, k7⟩, q1, q2, q3, q4, q5, q6, q7, q8, q9, q10, q11, q12⟩ := HM.out.1 hh
   cases k1
  go_enter Tryz.func23, Tryz.ntmps23
  go_wp2_with (
   (first
    |((with_reducible refine own_loadg1 hO ?_ _ rfl rfl _ Tryz.underlying44 rfl (trC_info x xm) ?_); (· first | rfl | (simp [Region.wanted, yielded]; done)))
    |(go_at_call 57; (with_reducible refine (hru _).mono ?_); rintro e w1 ⟨rfl, hb1⟩; replace hO := hO.grow hb1; have hcl1 := hO.b0.cell; have hcx1 := hO.b1.cell)
    |(go_at_call 58; (with_reducible refine (hsm _).mono ?_); rintro e w2 ⟨rfl, hb2⟩; replace hO := hO.grow hb2; have hcl2 := hO.b0.cell; have hcx2 := hO.b1.cell)
    |(go_at_call 59; (with_reducible refine (hti _).mono ?_); rintro e w3 ⟨rfl, hw3⟩; obtain rfl := hw3.symm)
    |(go_at_call 27; (with_reducible refine (htk _).mono ?_); rintro e w4 ⟨rfl, hw4⟩; obtain rfl := hw4.symm)
    |(go_at_call 60; (with_reducible refine (hri _ hO.below).mono ?_); rintro e w5 ⟨rfl, hb5⟩; replace hO := hO.grow hb5; have hcl5 := hO.b0.cell; have hcx5 := hO.b1.cell)
    |(go_at_call 61; (with_reducible refine (hbal _ hO.below).mono ?_); rintro e w6 ⟨rfl, hb6⟩; replace hO := Own.new2 (hO.grow hb6) 93 #[.int .i64 y1, .int .i64 y2, .int .i64 y3]; have hcl6 := hO.b0.cell; have hcx6 := hO.b1.cell)
    |(go_at_call 62; (with_reducible refine (hpm _ hO.below).mono ?_); rintro e w7 ⟨rfl, hb7⟩; replace hO := hO.grow hb7)
    |(go_at_call 63; (with_reducible refine (hbl _ hO.below).mono ?_); rintro e w8 ⟨rfl, hb8⟩; replace hO := hO.grow hb8; have hcx8 := hO.b1.cell))
   )
  go_ret
  exact ⟨rfl, hO.below⟩
 | true =>
 cases sm with
 | false =>
  obtain rfl : mx = false := Bool.eq_false_iff.2 fun hh => by
   obtain ⟨⟨k1, k2, k3, k4, k5, k6, k7⟩, q1, q2, q3, q4, q5, q6, q7, q8, q9, q10, q11, q12⟩ := HM.out.1 hh
   cases k2
  go_enter Tryz.func23, Tryz.ntmps23
  go_wp2_with (
   (first
    |((with_reducible refine own_loadg1 hO ?_ _ rfl rfl _ Tryz.underlying44 rfl (trC_info x xm) ?_); (· first | rfl | (simp [Region.wanted, yielded]; done)))
    |(go_at_call 57; (with_reducible refine (hru _).mono ?_); rintro e w1 ⟨rfl, hb1⟩; replace hO := hO.grow hb1; have hcl1 := hO.b0.cell; have hcx1 := hO.b1.cell)
    |(go_at_call 58; (with_reducible refine (hsm _).mono ?_); rintro e w2 ⟨rfl, hb2⟩; replace hO := hO.grow hb2; have hcl2 := hO.b0.cell; have hcx2 := hO.b1.cell)
    |(go_at_call 59; (with_reducible refine (hti _).mono ?_); rintro e w3 ⟨rfl, hw3⟩; obtain rfl := hw3.symm)
    |(go_at_call 27; (with_reducible refine (htk _).mono ?_); rintro e w4 ⟨rfl, hw4⟩; obtain rfl := hw4.symm)
    |(go_at_call 60; (with_reducible refine (hri _ hO.below).mono ?_); rintro e w5 ⟨rfl, hb5⟩; replace hO := hO.grow hb5; have hcl5 := hO.b0.cell; have hcx5 := hO.b1.cell)
    |(go_at_call 61; (with_reducible refine (hbal _ hO.below).mono ?_); rintro e w6 ⟨rfl, hb6⟩; replace hO := Own.new2 (hO.grow hb6) 93 #[.int .i64 y1, .int .i64 y2, .int .i64 y3]; have hcl6 := hO.b0.cell; have hcx6 := hO.b1.cell)
    |(go_at_call 62; (with_reducible refine (hpm _ hO.below).mono ?_); rintro e w7 ⟨rfl, hb7⟩; replace hO := hO.grow hb7)
    |(go_at_call 63; (with_reducible refine (hbl _ hO.below).mono ?_); rintro e w8 ⟨rfl, hb8⟩; replace hO := hO.grow hb8; have hcx8 := hO.b1.cell))
   )
  go_ret
  exact ⟨rfl, hO.below⟩
 | true =>
 cases ck with
 | false =>
  obtain rfl : mx = false := Bool.eq_false_iff.2 fun hh => by
   obtain ⟨⟨k1, k2, k3, k4, k5, k6, k7⟩, q1, q2, q3, q4, q5, q6, q7, q8, q9, q10, q11, q12⟩ := HM.out.1 hh
   exact absurd (HAT.out.2 ⟨q11, q12⟩) (by simp)
  go_enter Tryz.func23, Tryz.ntmps23
  go_wp2_with (
   (first
    |((with_reducible refine own_loadg1 hO ?_ _ rfl rfl _ Tryz.underlying44 rfl (trC_info x xm) ?_); (· first | rfl | (simp [Region.wanted, yielded]; done)))
    |(go_at_call 57; (with_reducible refine (hru _).mono ?_); rintro e w1 ⟨rfl, hb1⟩; replace hO := hO.grow hb1; have hcl1 := hO.b0.cell; have hcx1 := hO.b1.cell)
    |(go_at_call 58; (with_reducible refine (hsm _).mono ?_); rintro e w2 ⟨rfl, hb2⟩; replace hO := hO.grow hb2; have hcl2 := hO.b0.cell; have hcx2 := hO.b1.cell)
    |(go_at_call 59; (with_reducible refine (hti _).mono ?_); rintro e w3 ⟨rfl, hw3⟩; obtain rfl := hw3.symm)
    |(go_at_call 27; (with_reducible refine (htk _).mono ?_); rintro e w4 ⟨rfl, hw4⟩; obtain rfl := hw4.symm)
    |(go_at_call 60; (with_reducible refine (hri _ hO.below).mono ?_); rintro e w5 ⟨rfl, hb5⟩; replace hO := hO.grow hb5; have hcl5 := hO.b0.cell; have hcx5 := hO.b1.cell)
    |(go_at_call 61; (with_reducible refine (hbal _ hO.below).mono ?_); rintro e w6 ⟨rfl, hb6⟩; replace hO := Own.new2 (hO.grow hb6) 93 #[.int .i64 y1, .int .i64 y2, .int .i64 y3]; have hcl6 := hO.b0.cell; have hcx6 := hO.b1.cell)
    |(go_at_call 62; (with_reducible refine (hpm _ hO.below).mono ?_); rintro e w7 ⟨rfl, hb7⟩; replace hO := hO.grow hb7)
    |(go_at_call 63; (with_reducible refine (hbl _ hO.below).mono ?_); rintro e w8 ⟨rfl, hb8⟩; replace hO := hO.grow hb8; have hcx8 := hO.b1.cell))
   )
  go_ret
  exact ⟨rfl, hO.below⟩
 | true =>
 cases ri with
 | false =>
  obtain rfl : mx = false := Bool.eq_false_iff.2 fun hh => by
   obtain ⟨⟨k1, k2, k3, k4, k5, k6, k7⟩, q1, q2, q3, q4, q5, q6, q7, q8, q9, q10, q11, q12⟩ := HM.out.1 hh
   cases k3
  go_enter Tryz.func23, Tryz.ntmps23
  go_wp2_with (
   (first
    |((with_reducible refine own_loadg1 hO ?_ _ rfl rfl _ Tryz.underlying44 rfl (trC_info x xm) ?_); (· first | rfl | (simp [Region.wanted, yielded]; done)))
    |(go_at_call 57; (with_reducible refine (hru _).mono ?_); rintro e w1 ⟨rfl, hb1⟩; replace hO := hO.grow hb1; have hcl1 := hO.b0.cell; have hcx1 := hO.b1.cell)
    |(go_at_call 58; (with_reducible refine (hsm _).mono ?_); rintro e w2 ⟨rfl, hb2⟩; replace hO := hO.grow hb2; have hcl2 := hO.b0.cell; have hcx2 := hO.b1.cell)
    |(go_at_call 59; (with_reducible refine (hti _).mono ?_); rintro e w3 ⟨rfl, hw3⟩; obtain rfl := hw3.symm)
    |(go_at_call 27; (with_reducible refine (htk _).mono ?_); rintro e w4 ⟨rfl, hw4⟩; obtain rfl := hw4.symm)
    |(go_at_call 60; (with_reducible refine (hri _ hO.below).mono ?_); rintro e w5 ⟨rfl, hb5⟩; replace hO := hO.grow hb5; have hcl5 := hO.b0.cell; have hcx5 := hO.b1.cell)
    |(go_at_call 61; (with_reducible refine (hbal _ hO.below).mono ?_); rintro e w6 ⟨rfl, hb6⟩; replace hO := Own.new2 (hO.grow hb6) 93 #[.int .i64 y1, .int .i64 y2, .int .i64 y3]; have hcl6 := hO.b0.cell; have hcx6 := hO.b1.cell)
    |(go_at_call 62; (with_reducible refine (hpm _ hO.below).mono ?_); rintro e w7 ⟨rfl, hb7⟩; replace hO := hO.grow hb7)
    |(go_at_call 63; (with_reducible refine (hbl _ hO.below).mono ?_); rintro e w8 ⟨rfl, hb8⟩; replace hO := hO.grow hb8; have hcx8 := hO.b1.cell))
   )
  go_ret
  exact ⟨rfl, hO.below⟩
 | true =>
 cases ib with
 | false =>
  obtain rfl : mx = false := Bool.eq_false_iff.2 fun hh => by
   obtain ⟨⟨k1, k2, k3, k4, k5, k6, k7⟩, q1, q2, q3, q4, q5, q6, q7, q8, q9, q10, q11, q12⟩ := HM.out.1 hh
   cases k5
  go_enter Tryz.func23, Tryz.ntmps23
  go_wp2_with (
   (first
    |((with_reducible refine own_loadg1 hO ?_ _ rfl rfl _ Tryz.underlying44 rfl (trC_info x xm) ?_); (· first | rfl | (simp [Region.wanted, yielded]; done)))
    |(go_at_call 57; (with_reducible refine (hru _).mono ?_); rintro e w1 ⟨rfl, hb1⟩; replace hO := hO.grow hb1; have hcl1 := hO.b0.cell; have hcx1 := hO.b1.cell)
    |(go_at_call 58; (with_reducible refine (hsm _).mono ?_); rintro e w2 ⟨rfl, hb2⟩; replace hO := hO.grow hb2; have hcl2 := hO.b0.cell; have hcx2 := hO.b1.cell)
    |(go_at_call 59; (with_reducible refine (hti _).mono ?_); rintro e w3 ⟨rfl, hw3⟩; obtain rfl := hw3.symm)
    |(go_at_call 27; (with_reducible refine (htk _).mono ?_); rintro e w4 ⟨rfl, hw4⟩; obtain rfl := hw4.symm)
    |(go_at_call 60; (with_reducible refine (hri _ hO.below).mono ?_); rintro e w5 ⟨rfl, hb5⟩; replace hO := hO.grow hb5; have hcl5 := hO.b0.cell; have hcx5 := hO.b1.cell)
    |(go_at_call 61; (with_reducible refine (hbal _ hO.below).mono ?_); rintro e w6 ⟨rfl, hb6⟩; replace hO := Own.new2 (hO.grow hb6) 93 #[.int .i64 y1, .int .i64 y2, .int .i64 y3]; have hcl6 := hO.b0.cell; have hcx6 := hO.b1.cell)
    |(go_at_call 62; (with_reducible refine (hpm _ hO.below).mono ?_); rintro e w7 ⟨rfl, hb7⟩; replace hO := hO.grow hb7)
    |(go_at_call 63; (with_reducible refine (hbl _ hO.below).mono ?_); rintro e w8 ⟨rfl, hb8⟩; replace hO := hO.grow hb8; have hcx8 := hO.b1.cell))
   )
  go_ret
  exact ⟨rfl, hO.below⟩
 | true =>
 by_cases g1 : x.id < 0
 ·
  have f1 : decide (x.id < 0) = true := by simpa using g1
  obtain rfl : mx = false := Bool.eq_false_iff.2 fun hh => by
   obtain ⟨⟨k1, k2, k3, k4, k5, k6, k7⟩, q1, q2, q3, q4, q5, q6, q7, q8, q9, q10, q11, q12⟩ := HM.out.1 hh
   omega
  go_enter Tryz.func23, Tryz.ntmps23
  go_wp2_with (
   (first
    |((with_reducible refine own_loadg1 hO ?_ _ rfl rfl _ Tryz.underlying44 rfl (trC_info x xm) ?_); (· first | rfl | (simp [Region.wanted, yielded]; done)))
    |(go_at_call 57; (with_reducible refine (hru _).mono ?_); rintro e w1 ⟨rfl, hb1⟩; replace hO := hO.grow hb1; have hcl1 := hO.b0.cell; have hcx1 := hO.b1.cell)
    |(go_at_call 58; (with_reducible refine (hsm _).mono ?_); rintro e w2 ⟨rfl, hb2⟩; replace hO := hO.grow hb2; have hcl2 := hO.b0.cell; have hcx2 := hO.b1.cell)
    |(go_at_call 59; (with_reducible refine (hti _).mono ?_); rintro e w3 ⟨rfl, hw3⟩; obtain rfl := hw3.symm)
    |(go_at_call 27; (with_reducible refine (htk _).mono ?_); rintro e w4 ⟨rfl, hw4⟩; obtain rfl := hw4.symm)
    |(go_at_call 60; (with_reducible refine (hri _ hO.below).mono ?_); rintro e w5 ⟨rfl, hb5⟩; replace hO := hO.grow hb5; have hcl5 := hO.b0.cell; have hcx5 := hO.b1.cell)
    |(go_at_call 61; (with_reducible refine (hbal _ hO.below).mono ?_); rintro e w6 ⟨rfl, hb6⟩; replace hO := Own.new2 (hO.grow hb6) 93 #[.int .i64 y1, .int .i64 y2, .int .i64 y3]; have hcl6 := hO.b0.cell; have hcx6 := hO.b1.cell)
    |(go_at_call 62; (with_reducible refine (hpm _ hO.below).mono ?_); rintro e w7 ⟨rfl, hb7⟩; replace hO := hO.grow hb7)
    |(go_at_call 63; (with_reducible refine (hbl _ hO.below).mono ?_); rintro e w8 ⟨rfl, hb8⟩; replace hO := hO.grow hb8; have hcx8 := hO.b1.cell))
   )
  go_ret
  exact ⟨rfl, hO.below⟩
 have f1 : decide (x.id < 0) = false := by simpa using g1
 replace g1 := Int.not_lt.1 g1
 by_cases g2 : 16777215 < x.id
 ·
  have f2 : decide (16777215 < x.id) = true := by simpa using g2
  obtain rfl : mx = false := Bool.eq_false_iff.2 fun hh => by
   obtain ⟨⟨k1, k2, k3, k4, k5, k6, k7⟩, q1, q2, q3, q4, q5, q6, q7, q8, q9, q10, q11, q12⟩ := HM.out.1 hh
   omega
  go_enter Tryz.func23, Tryz.ntmps23
  go_wp2_with (
   (first
    |((with_reducible refine own_loadg1 hO ?_ _ rfl rfl _ Tryz.underlying44 rfl (trC_info x xm) ?_); (· first | rfl | (simp [Region.wanted, yielded]; done)))
    |(go_at_call 57; (with_reducible refine (hru _).mono ?_); rintro e w1 ⟨rfl, hb1⟩; replace hO := hO.grow hb1; have hcl1 := hO.b0.cell; have hcx1 := hO.b1.cell)
    |(go_at_call 58; (with_reducible refine (hsm _).mono ?_); rintro e w2 ⟨rfl, hb2⟩; replace hO := hO.grow hb2; have hcl2 := hO.b0.cell; have hcx2 := hO.b1.cell)
    |(go_at_call 59; (with_reducible refine (hti _).mono ?_); rintro e w3 ⟨rfl, hw3⟩; obtain rfl := hw3.symm)
    |(go_at_call 27; (with_reducible refine (htk _).mono ?_); rintro e w4 ⟨rfl, hw4⟩; obtain rfl := hw4.symm)
    |(go_at_call 60; (with_reducible refine (hri _ hO.below).mono ?_); rintro e w5 ⟨rfl, hb5⟩; replace hO := hO.grow hb5; have hcl5 := hO.b0.cell; have hcx5 := hO.b1.cell)
    |(go_at_call 61; (with_reducible refine (hbal _ hO.below).mono ?_); rintro e w6 ⟨rfl, hb6⟩; replace hO := Own.new2 (hO.grow hb6) 93 #[.int .i64 y1, .int .i64 y2, .int .i64 y3]; have hcl6 := hO.b0.cell; have hcx6 := hO.b1.cell)
    |(go_at_call 62; (with_reducible refine (hpm _ hO.below).mono ?_); rintro e w7 ⟨rfl, hb7⟩; replace hO := hO.grow hb7)
    |(go_at_call 63; (with_reducible refine (hbl _ hO.below).mono ?_); rintro e w8 ⟨rfl, hb8⟩; replace hO := hO.grow hb8; have hcx8 := hO.b1.cell))
   )
  go_ret
  exact ⟨rfl, hO.below⟩
 have f2 : decide (16777215 < x.id) = false := by simpa using g2
 replace g2 := Int.not_lt.1 g2
 by_cases g3 : x.len < 1
 ·
  have f3 : decide (x.len < 1) = true := by simpa using g3
  obtain rfl : mx = false := Bool.eq_false_iff.2 fun hh => by
   obtain ⟨⟨k1, k2, k3, k4, k5, k6, k7⟩, q1, q2, q3, q4, q5, q6, q7, q8, q9, q10, q11, q12⟩ := HM.out.1 hh
   omega
  go_enter Tryz.func23, Tryz.ntmps23
  go_wp2_with (
   (first
    |((with_reducible refine own_loadg1 hO ?_ _ rfl rfl _ Tryz.underlying44 rfl (trC_info x xm) ?_); (· first | rfl | (simp [Region.wanted, yielded]; done)))
    |(go_at_call 57; (with_reducible refine (hru _).mono ?_); rintro e w1 ⟨rfl, hb1⟩; replace hO := hO.grow hb1; have hcl1 := hO.b0.cell; have hcx1 := hO.b1.cell)
    |(go_at_call 58; (with_reducible refine (hsm _).mono ?_); rintro e w2 ⟨rfl, hb2⟩; replace hO := hO.grow hb2; have hcl2 := hO.b0.cell; have hcx2 := hO.b1.cell)
    |(go_at_call 59; (with_reducible refine (hti _).mono ?_); rintro e w3 ⟨rfl, hw3⟩; obtain rfl := hw3.symm)
    |(go_at_call 27; (with_reducible refine (htk _).mono ?_); rintro e w4 ⟨rfl, hw4⟩; obtain rfl := hw4.symm)
    |(go_at_call 60; (with_reducible refine (hri _ hO.below).mono ?_); rintro e w5 ⟨rfl, hb5⟩; replace hO := hO.grow hb5; have hcl5 := hO.b0.cell; have hcx5 := hO.b1.cell)
    |(go_at_call 61; (with_reducible refine (hbal _ hO.below).mono ?_); rintro e w6 ⟨rfl, hb6⟩; replace hO := Own.new2 (hO.grow hb6) 93 #[.int .i64 y1, .int .i64 y2, .int .i64 y3]; have hcl6 := hO.b0.cell; have hcx6 := hO.b1.cell)
    |(go_at_call 62; (with_reducible refine (hpm _ hO.below).mono ?_); rintro e w7 ⟨rfl, hb7⟩; replace hO := hO.grow hb7)
    |(go_at_call 63; (with_reducible refine (hbl _ hO.below).mono ?_); rintro e w8 ⟨rfl, hb8⟩; replace hO := hO.grow hb8; have hcx8 := hO.b1.cell))
   )
  go_ret
  exact ⟨rfl, hO.below⟩
 have f3 : decide (x.len < 1) = false := by simpa using g3
 replace g3 := Int.not_lt.1 g3
 by_cases g4 : 32766 < x.len
 ·
  have f4 : decide (32766 < x.len) = true := by simpa using g4
  obtain rfl : mx = false := Bool.eq_false_iff.2 fun hh => by
   obtain ⟨⟨k1, k2, k3, k4, k5, k6, k7⟩, q1, q2, q3, q4, q5, q6, q7, q8, q9, q10, q11, q12⟩ := HM.out.1 hh
   omega
  go_enter Tryz.func23, Tryz.ntmps23
  go_wp2_with (
   (first
    |((with_reducible refine own_loadg1 hO ?_ _ rfl rfl _ Tryz.underlying44 rfl (trC_info x xm) ?_); (· first | rfl | (simp [Region.wanted, yielded]; done)))
    |(go_at_call 57; (with_reducible refine (hru _).mono ?_); rintro e w1 ⟨rfl, hb1⟩; replace hO := hO.grow hb1; have hcl1 := hO.b0.cell; have hcx1 := hO.b1.cell)
    |(go_at_call 58; (with_reducible refine (hsm _).mono ?_); rintro e w2 ⟨rfl, hb2⟩; replace hO := hO.grow hb2; have hcl2 := hO.b0.cell; have hcx2 := hO.b1.cell)
    |(go_at_call 59; (with_reducible refine (hti _).mono ?_); rintro e w3 ⟨rfl, hw3⟩; obtain rfl := hw3.symm)
    |(go_at_call 27; (with_reducible refine (htk _).mono ?_); rintro e w4 ⟨rfl, hw4⟩; obtain rfl := hw4.symm)
    |(go_at_call 60; (with_reducible refine (hri _ hO.below).mono ?_); rintro e w5 ⟨rfl, hb5⟩; replace hO := hO.grow hb5; have hcl5 := hO.b0.cell; have hcx5 := hO.b1.cell)
    |(go_at_call 61; (with_reducible refine (hbal _ hO.below).mono ?_); rintro e w6 ⟨rfl, hb6⟩; replace hO := Own.new2 (hO.grow hb6) 93 #[.int .i64 y1, .int .i64 y2, .int .i64 y3]; have hcl6 := hO.b0.cell; have hcx6 := hO.b1.cell)
    |(go_at_call 62; (with_reducible refine (hpm _ hO.below).mono ?_); rintro e w7 ⟨rfl, hb7⟩; replace hO := hO.grow hb7)
    |(go_at_call 63; (with_reducible refine (hbl _ hO.below).mono ?_); rintro e w8 ⟨rfl, hb8⟩; replace hO := hO.grow hb8; have hcx8 := hO.b1.cell))
   )
  go_ret
  exact ⟨rfl, hO.below⟩
 have f4 : decide (32766 < x.len) = false := by simpa using g4
 replace g4 := Int.not_lt.1 g4
 by_cases g5 : x.side = 0
 ·
  have f5 : (x.side != 0) = false := by simpa using g5
  replace g5 := Lib.hid g5
  by_cases g6 : x.train = x.id
  ·
   have f6 : (x.train != x.id) = false := by simpa using g6
   replace g6 := Lib.hid g6
   by_cases g7 : x.past < 0
   ·
    have f7 : decide (x.past < 0) = true := by simpa using g7
    obtain rfl : mx = false := Bool.eq_false_iff.2 fun hh => by
     obtain ⟨⟨k1, k2, k3, k4, k5, k6, k7⟩, q1, q2, q3, q4, q5, q6, q7, q8, q9, q10, q11, q12⟩ := HM.out.1 hh
     omega
    go_enter Tryz.func23, Tryz.ntmps23
    go_wp2_with (
     (first
      |((with_reducible refine own_loadg1 hO ?_ _ rfl rfl _ Tryz.underlying44 rfl (trC_info x xm) ?_); (· first | rfl | (simp [Region.wanted, yielded]; done)))
      |(go_at_call 57; (with_reducible refine (hru _).mono ?_); rintro e w1 ⟨rfl, hb1⟩; replace hO := hO.grow hb1; have hcl1 := hO.b0.cell; have hcx1 := hO.b1.cell)
      |(go_at_call 58; (with_reducible refine (hsm _).mono ?_); rintro e w2 ⟨rfl, hb2⟩; replace hO := hO.grow hb2; have hcl2 := hO.b0.cell; have hcx2 := hO.b1.cell)
      |(go_at_call 59; (with_reducible refine (hti _).mono ?_); rintro e w3 ⟨rfl, hw3⟩; obtain rfl := hw3.symm)
      |(go_at_call 27; (with_reducible refine (htk _).mono ?_); rintro e w4 ⟨rfl, hw4⟩; obtain rfl := hw4.symm)
      |(go_at_call 60; (with_reducible refine (hri _ hO.below).mono ?_); rintro e w5 ⟨rfl, hb5⟩; replace hO := hO.grow hb5; have hcl5 := hO.b0.cell; have hcx5 := hO.b1.cell)
      |(go_at_call 61; (with_reducible refine (hbal _ hO.below).mono ?_); rintro e w6 ⟨rfl, hb6⟩; replace hO := Own.new2 (hO.grow hb6) 93 #[.int .i64 y1, .int .i64 y2, .int .i64 y3]; have hcl6 := hO.b0.cell; have hcx6 := hO.b1.cell)
      |(go_at_call 62; (with_reducible refine (hpm _ hO.below).mono ?_); rintro e w7 ⟨rfl, hb7⟩; replace hO := hO.grow hb7)
      |(go_at_call 63; (with_reducible refine (hbl _ hO.below).mono ?_); rintro e w8 ⟨rfl, hb8⟩; replace hO := hO.grow hb8; have hcx8 := hO.b1.cell))
     )
    go_ret
    exact ⟨rfl, hO.below⟩
   have f7 : decide (x.past < 0) = false := by simpa using g7
   replace g7 := Int.not_lt.1 g7
   by_cases g8 : 1099511627776 < x.past
   ·
    have f8 : decide (1099511627776 < x.past) = true := by simpa using g8
    obtain rfl : mx = false := Bool.eq_false_iff.2 fun hh => by
     obtain ⟨⟨k1, k2, k3, k4, k5, k6, k7⟩, q1, q2, q3, q4, q5, q6, q7, q8, q9, q10, q11, q12⟩ := HM.out.1 hh
     omega
    go_enter Tryz.func23, Tryz.ntmps23
    go_wp2_with (
     (first
      |((with_reducible refine own_loadg1 hO ?_ _ rfl rfl _ Tryz.underlying44 rfl (trC_info x xm) ?_); (· first | rfl | (simp [Region.wanted, yielded]; done)))
      |(go_at_call 57; (with_reducible refine (hru _).mono ?_); rintro e w1 ⟨rfl, hb1⟩; replace hO := hO.grow hb1; have hcl1 := hO.b0.cell; have hcx1 := hO.b1.cell)
      |(go_at_call 58; (with_reducible refine (hsm _).mono ?_); rintro e w2 ⟨rfl, hb2⟩; replace hO := hO.grow hb2; have hcl2 := hO.b0.cell; have hcx2 := hO.b1.cell)
      |(go_at_call 59; (with_reducible refine (hti _).mono ?_); rintro e w3 ⟨rfl, hw3⟩; obtain rfl := hw3.symm)
      |(go_at_call 27; (with_reducible refine (htk _).mono ?_); rintro e w4 ⟨rfl, hw4⟩; obtain rfl := hw4.symm)
      |(go_at_call 60; (with_reducible refine (hri _ hO.below).mono ?_); rintro e w5 ⟨rfl, hb5⟩; replace hO := hO.grow hb5; have hcl5 := hO.b0.cell; have hcx5 := hO.b1.cell)
      |(go_at_call 61; (with_reducible refine (hbal _ hO.below).mono ?_); rintro e w6 ⟨rfl, hb6⟩; replace hO := Own.new2 (hO.grow hb6) 93 #[.int .i64 y1, .int .i64 y2, .int .i64 y3]; have hcl6 := hO.b0.cell; have hcx6 := hO.b1.cell)
      |(go_at_call 62; (with_reducible refine (hpm _ hO.below).mono ?_); rintro e w7 ⟨rfl, hb7⟩; replace hO := hO.grow hb7)
      |(go_at_call 63; (with_reducible refine (hbl _ hO.below).mono ?_); rintro e w8 ⟨rfl, hb8⟩; replace hO := hO.grow hb8; have hcx8 := hO.b1.cell))
     )
    go_ret
    exact ⟨rfl, hO.below⟩
   have f8 : decide (1099511627776 < x.past) = false := by simpa using g8
   replace g8 := Int.not_lt.1 g8
   obtain ⟨hd_, hhd⟩ : ∃ b, b = x.held := ⟨_, rfl⟩
   rw [← hhd] at t46
   have HHD := Lib.hid hhd
   have hall : Hid (mx = true ↔ rs = true ∧ (hd_ = true → pm = true) ∧ (hd_ = false → bl = true ∧ x.at_ = 0)) := Lib.hid (by
    rw [HM.out, HHD.out]
    have h5 := g5.out
    have h6 := g6.out
    have hl := HLA.out
    have ha := HAT.out.1 rfl
    constructor
    ·
     rintro ⟨⟨_, _, _, k4, _, k6, k7⟩, _⟩
     exact ⟨k4, k6, k7⟩
    ·
     rintro ⟨k4, k6, k7⟩
     exact ⟨⟨rfl, rfl, rfl, k4, rfl, k6, k7⟩, by omega, by omega, by omega, by omega, h5, h6, hl.1, hl.2, by omega, by omega, ha.1, ha.2⟩)
   clear hhd
   go_enter Tryz.func23, Tryz.ntmps23
   go_wp2_with (
    (first
     |((with_reducible refine own_loadg1 hO ?_ _ rfl rfl _ Tryz.underlying44 rfl (trC_info x xm) ?_); (· first | rfl | (simp [Region.wanted, yielded]; done)))
     |(go_at_call 57; (with_reducible refine (hru _).mono ?_); rintro e w1 ⟨rfl, hb1⟩; replace hO := hO.grow hb1; have hcl1 := hO.b0.cell; have hcx1 := hO.b1.cell)
     |(go_at_call 58; (with_reducible refine (hsm _).mono ?_); rintro e w2 ⟨rfl, hb2⟩; replace hO := hO.grow hb2; have hcl2 := hO.b0.cell; have hcx2 := hO.b1.cell)
     |(go_at_call 59; (with_reducible refine (hti _).mono ?_); rintro e w3 ⟨rfl, hw3⟩; obtain rfl := hw3.symm)
     |(go_at_call 27; (with_reducible refine (htk _).mono ?_); rintro e w4 ⟨rfl, hw4⟩; obtain rfl := hw4.symm)
     |(go_at_call 60; (with_reducible refine (hri _ hO.below).mono ?_); rintro e w5 ⟨rfl, hb5⟩; replace hO := hO.grow hb5; have hcl5 := hO.b0.cell; have hcx5 := hO.b1.cell)
     |(go_at_call 61; (with_reducible refine (hbal _ hO.below).mono ?_); rintro e w6 ⟨rfl, hb6⟩; replace hO := Own.new2 (hO.grow hb6) 93 #[.int .i64 y1, .int .i64 y2, .int .i64 y3]; have hcl6 := hO.b0.cell; have hcx6 := hO.b1.cell)
     |(go_at_call 62; (with_reducible refine (hpm _ hO.below).mono ?_); rintro e w7 ⟨rfl, hb7⟩; replace hO := hO.grow hb7)
     |(go_at_call 63; (with_reducible refine (hbl _ hO.below).mono ?_); rintro e w8 ⟨rfl, hb8⟩; replace hO := hO.grow hb8; have hcx8 := hO.b1.cell))
    )
   clear hcl hcx hcl1 hcx1 hcl2 hcx2 hcl5 hcx5 hcl6 hcx6 hru hsm hti htk hri hbal hb1 hb2 hb5 hb6 f1 f2 f3 f4 f5 f6 f7 f8 g1 g2 g3 g4 g7 g8
   go_loopw [12] (fun s wr => ∃ (k : Nat) (la : Int), s = .int .i64 k ∧ k ≤ xm.n3 ∧ -1 ≤ la ∧ Hid (k = 0 → la = -1) ∧ Hid (∀ n : Int, 0 < k → x.stops[k - 1]? = some n → n = la) ∧ Hid (rs = risingP la (x.stops.drop k)) ∧ Own w wr [(w.heap.size, 27, #[.slice m.A1 m.n1 m.c1, .slice m.A2 m.n2 m.c2, .slice m.A3 m.n3 m.c3, .slice m.A4 m.n4 m.c4]), (w.heap.size + 1, 44, trC x xm)]) (fun s _ => xm.n3 - (intOf s).toNat)
   case atStart => exact ⟨0, -1, rfl, Nat.zero_le _, Int.le_refl _, Lib.hid fun _ => rfl, Lib.hid fun _ h => absurd h (Nat.lt_irrefl _), Lib.hid (by rw [HRS.out]; simp), hO.less2 (by simp)⟩
   case round =>
    clear hO
    obtain ⟨k, la, rfl, hk, hla0', hk0, hkp, hap, hO⟩ := hrel
    have hl3 := hx.l3
    generalize hxb : w.heap.size + 1 = xb at hO ⊢
    have hcl := hO.b0.cell
    have hcx := hO.b1.cell
    by_cases hlt : k < xm.n3
    ·
     have hdc : decide ((k : Int) < (xm.n3 : Int)) = true := by simpa using hlt
     obtain ⟨n, hn⟩ := get_some hx.e3 hlt
     obtain ⟨gs, offs, hA3, hgs, c0⟩ := cellI hx.stops hn
     have ks0 := fun W (hW : Below w.heap.size w W) => (hW.cell (p := ⟨gs, offs + k, none⟩) hgs).trans c0
     have hst := rising_drop (x := la) hn
     rw [← hap.out] at hst
     have HN := Lib.hid hn
     have HF : Hid (¬ (la < n ∧ n ≤ 15) → mx = false) := Lib.hid fun hno => Bool.eq_false_iff.2 fun hh => by
      have := (hall.out.1 hh).1
      rw [hst] at this
      simp only [Bool.and_eq_true, decide_eq_true_eq] at this
      exact hno this.1
     have HG : Hid (la < n ∧ n ≤ 15 → rs = risingP n (x.stops.drop (k + 1))) := Lib.hid fun hg => by
      rw [hst]
      simp [hg]
     have t47' : (trC x xm)[47]? = some (.slice (some ⟨gs, offs, none⟩) xm.n3 xm.c3) := by rw [t47, hA3]
     have t47k := t47
     clear hn c0 hst hap t47
     --< LQ
     go_wp2_with fail
     clear hcl hcx hdc
     by_cases c1 : n < 0
     ·
      have d1 : decide (n < 0) = true := by simpa using c1
      obtain rfl := HF.out (by omega)
      clear HF HG hall c1 hk0 hkp
      apply wp_region_lex
      case hFl => intro u; simp only [List.map, fill, Act.put, List.setIfInBounds_toArray, List.set_cons_zero, List.set_cons_succ, Nat.reduceAdd, Nat.zero_add]; rfl
      case hm => kernel_rfl
      case hB => kernel_rfl
      case hap => kernel_rfl
      repeat (first | (apply Lex.is; · (intro u w' hk hd; refine looked_free rfl ?_; simp [Waited, Region.binds, Is] at hd; intro K hK; have hO2 := hO.grow hk; have hca := hO2.b1.cell; have m0 := ks0 _ hO2.below; go_wp2_with (fail); (try simp only [hd] at hK); refine hK _ _ ?_ rfl; first | exact Below.refl _ _ | exact hb3)) | (refine Lex.is (c := undef) ?_ ?_; · (intro u w' hk hd; simp [Waited, Region.binds, Is] at hd; refine looked_skip_g rfl rfl rfl ?_ rfl; simp only [hd]; first | rfl | decide)) | (apply Lex.is; · (intro u w' hk hd; simp [Waited, Region.binds, Is] at hd; refine looked_want_g rfl rfl rfl ?_ ?_; (· (simp only [hd]; first | rfl | decide)); intro K hK; have hO2 := hO.grow hk; have hca := hO2.b1.cell; have m0 := ks0 _ hO2.below; go_wp2_with (fail); (try simp only [hd] at hK); refine hK _ _ ?_ rfl; first | exact Below.refl _ _ | exact hb3)))
      apply Lex.nil
      intro u w' hk hd
      simp only [List.nil_append, List.cons_append] at hd
      have hlast := hd 31 _ rfl
      simp only [Is] at hlast
      clear hd
      simp only [hlast]
      clear hlast
      have hO3 := hO.grow hk
      go_wp2_with fail
      go_ret
      exact ⟨rfl, hO3.below⟩
     have d1 : decide (n < 0) = false := by simpa using c1
     replace c1 := Int.not_lt.1 c1
     by_cases c2 : 15 < n
     ·
      have d2 : decide (15 < n) = true := by simpa using c2
      obtain rfl := HF.out (by omega)
      clear HF HG hall c2 hk0 hkp
      apply wp_region_lex
      case hFl => intro u; simp only [List.map, fill, Act.put, List.setIfInBounds_toArray, List.set_cons_zero, List.set_cons_succ, Nat.reduceAdd, Nat.zero_add]; rfl
      case hm => kernel_rfl
      case hB => kernel_rfl
      case hap => kernel_rfl
      repeat (first | (apply Lex.is; · (intro u w' hk hd; refine looked_free rfl ?_; simp [Waited, Region.binds, Is] at hd; intro K hK; have hO2 := hO.grow hk; have hca := hO2.b1.cell; have m0 := ks0 _ hO2.below; go_wp2_with (fail); (try simp only [hd] at hK); refine hK _ _ ?_ rfl; first | exact Below.refl _ _ | exact hb3)) | (refine Lex.is (c := undef) ?_ ?_; · (intro u w' hk hd; simp [Waited, Region.binds, Is] at hd; refine looked_skip_g rfl rfl rfl ?_ rfl; simp only [hd]; first | rfl | decide)) | (apply Lex.is; · (intro u w' hk hd; simp [Waited, Region.binds, Is] at hd; refine looked_want_g rfl rfl rfl ?_ ?_; (· (simp only [hd]; first | rfl | decide)); intro K hK; have hO2 := hO.grow hk; have hca := hO2.b1.cell; have m0 := ks0 _ hO2.below; go_wp2_with (fail); (try simp only [hd] at hK); refine hK _ _ ?_ rfl; first | exact Below.refl _ _ | exact hb3)))
      apply Lex.nil
      intro u w' hk hd
      simp only [List.nil_append, List.cons_append] at hd
      have hlast := hd 31 _ rfl
      simp only [Is] at hlast
      clear hd
      simp only [hlast]
      clear hlast
      have hO3 := hO.grow hk
      go_wp2_with fail
      go_ret
      exact ⟨rfl, hO3.below⟩
     have d2 : decide (15 < n) = false := by simpa using c2
     replace c2 := Int.not_lt.1 c2
     rcases Nat.eq_zero_or_pos k with hz | hz
     ·
      have hla1 := hk0.out hz
      have HAP := Lib.hid (HG.out ⟨by omega, by omega⟩)
      subst hz
      simp only [Nat.add_zero] at ks0
      clear HG HF hk0 hkp hla1
      apply wp_region_lex
      case hFl => intro u; simp only [List.map, fill, Act.put, List.setIfInBounds_toArray, List.set_cons_zero, List.set_cons_succ, Nat.reduceAdd, Nat.zero_add]; rfl
      case hm => kernel_rfl
      case hB => kernel_rfl
      case hap => kernel_rfl
      repeat (first | (apply Lex.is; · (intro u w' hk hd; refine looked_free rfl ?_; simp [Waited, Region.binds, Is] at hd; intro K hK; have hO2 := hO.grow hk; have hca := hO2.b1.cell; have m0 := ks0 _ hO2.below; go_wp2_with (fail); (try simp only [hd] at hK); refine hK _ _ ?_ rfl; first | exact Below.refl _ _ | exact hb3)) | (refine Lex.is (c := undef) ?_ ?_; · (intro u w' hk hd; simp [Waited, Region.binds, Is] at hd; refine looked_skip_g rfl rfl rfl ?_ rfl; simp only [hd]; first | rfl | decide)) | (apply Lex.is; · (intro u w' hk hd; simp [Waited, Region.binds, Is] at hd; refine looked_want_g rfl rfl rfl ?_ ?_; (· (simp only [hd]; first | rfl | decide)); intro K hK; have hO2 := hO.grow hk; have hca := hO2.b1.cell; have m0 := ks0 _ hO2.below; go_wp2_with (fail); (try simp only [hd] at hK); refine hK _ _ ?_ rfl; first | exact Below.refl _ _ | exact hb3)))
      apply Lex.nil
      intro u w' hk hd
      simp only [List.nil_append, List.cons_append] at hd
      have hlast := hd 31 _ rfl
      simp only [Is] at hlast
      clear hd
      simp only [hlast]
      clear hlast
      have hO3 := hO.grow hk
      go_wp2_with fail
      go_roundw
      case rel => subst hxb; exact ⟨1, n, by go_num, by omega, by omega, Lib.hid (by omega), Lib.hid (fun s _ h => by have := HN.out; rw [h] at this; cases this; rfl), HAP, hO3⟩
      case measure => simp [intOf] <;> omega
     ·
      obtain ⟨q, rfl⟩ : ∃ q, k = q + 1 := ⟨k - 1, by omega⟩
      obtain ⟨n', hn'⟩ := get_some hx.e3 (show q < xm.n3 by omega)
      obtain ⟨g3, off3, e3, _, b0⟩ := cellI hx.stops hn'
      rw [hA3] at e3
      simp only [Option.some.injEq, Addr.mk.injEq] at e3
      obtain ⟨rfl, rfl, -⟩ := e3
      have hla1 : n' = la := hkp.out n' (by omega) hn'
      rw [hla1] at b0
      have kp0 := fun W (hW : Below w.heap.size w W) => (hW.cell (p := ⟨gs, offs + q, none⟩) hgs).trans b0
      have dq : decide ((0 : Int) < (q : Int) + 1) = true := by simp <;> omega
      clear hn' hla1 b0 hk0 hkp
      by_cases c5 : n ≤ la
      ·
       have d5 : decide (n ≤ la) = true := by simpa using c5
       obtain rfl := HF.out (by omega)
       clear HF HG hall c5
       apply wp_region_lex
       case hFl => intro u; simp only [List.map, fill, Act.put, List.setIfInBounds_toArray, List.set_cons_zero, List.set_cons_succ, Nat.reduceAdd, Nat.zero_add]; rfl
       case hm => kernel_rfl
       case hB => kernel_rfl
       case hap => kernel_rfl
       repeat (first | (apply Lex.is; · (intro u w' hk hd; refine looked_free rfl ?_; simp [Waited, Region.binds, Is] at hd; intro K hK; have hO2 := hO.grow hk; have hca := hO2.b1.cell; have m0 := ks0 _ hO2.below ; have m1 := kp0 _ hO2.below; go_wp2_with (fail); (try simp only [hd] at hK); refine hK _ _ ?_ rfl; first | exact Below.refl _ _ | exact hb3)) | (refine Lex.is (c := undef) ?_ ?_; · (intro u w' hk hd; simp [Waited, Region.binds, Is] at hd; refine looked_skip_g rfl rfl rfl ?_ rfl; simp only [hd]; first | rfl | decide)) | (apply Lex.is; · (intro u w' hk hd; simp [Waited, Region.binds, Is] at hd; refine looked_want_g rfl rfl rfl ?_ ?_; (· (simp only [hd]; first | rfl | decide)); intro K hK; have hO2 := hO.grow hk; have hca := hO2.b1.cell; have m0 := ks0 _ hO2.below ; have m1 := kp0 _ hO2.below; go_wp2_with (fail); (try simp only [hd] at hK); refine hK _ _ ?_ rfl; first | exact Below.refl _ _ | exact hb3)))
       apply Lex.nil
       intro u w' hk hd
       simp only [List.nil_append, List.cons_append] at hd
       have hlast := hd 31 _ rfl
       simp only [Is] at hlast
       clear hd
       simp only [hlast]
       clear hlast
       have hO3 := hO.grow hk
       go_wp2_with fail
       go_ret
       exact ⟨rfl, hO3.below⟩
      ·
       have d5 : decide (n ≤ la) = false := by simpa using c5
       replace c5 := Int.not_le.1 c5
       have HAP := Lib.hid (HG.out ⟨by omega, by omega⟩)
       clear HG HF c5
       apply wp_region_lex
       case hFl => intro u; simp only [List.map, fill, Act.put, List.setIfInBounds_toArray, List.set_cons_zero, List.set_cons_succ, Nat.reduceAdd, Nat.zero_add]; rfl
       case hm => kernel_rfl
       case hB => kernel_rfl
       case hap => kernel_rfl
       repeat (first | (apply Lex.is; · (intro u w' hk hd; refine looked_free rfl ?_; simp [Waited, Region.binds, Is] at hd; intro K hK; have hO2 := hO.grow hk; have hca := hO2.b1.cell; have m0 := ks0 _ hO2.below ; have m1 := kp0 _ hO2.below; go_wp2_with (fail); (try simp only [hd] at hK); refine hK _ _ ?_ rfl; first | exact Below.refl _ _ | exact hb3)) | (refine Lex.is (c := undef) ?_ ?_; · (intro u w' hk hd; simp [Waited, Region.binds, Is] at hd; refine looked_skip_g rfl rfl rfl ?_ rfl; simp only [hd]; first | rfl | decide)) | (apply Lex.is; · (intro u w' hk hd; simp [Waited, Region.binds, Is] at hd; refine looked_want_g rfl rfl rfl ?_ ?_; (· (simp only [hd]; first | rfl | decide)); intro K hK; have hO2 := hO.grow hk; have hca := hO2.b1.cell; have m0 := ks0 _ hO2.below ; have m1 := kp0 _ hO2.below; go_wp2_with (fail); (try simp only [hd] at hK); refine hK _ _ ?_ rfl; first | exact Below.refl _ _ | exact hb3)))
       apply Lex.nil
       intro u w' hk hd
       simp only [List.nil_append, List.cons_append] at hd
       have hlast := hd 31 _ rfl
       simp only [Is] at hlast
       clear hd
       simp only [hlast]
       clear hlast
       have hO3 := hO.grow hk
       go_wp2_with fail
       go_roundw
       case rel => subst hxb; exact ⟨q + 2, n, by go_num, by omega, by omega, Lib.hid (by omega), Lib.hid (fun s _ h => by have := HN.out; rw [show q + 2 - 1 = q + 1 by omega, this] at h; cases h; rfl), HAP, hO3⟩
       case measure => simp [intOf] <;> omega
     --> LQ
    ·
     obtain rfl : k = xm.n3 := by omega
     --< LR
     have hdc : decide ((xm.n3 : Int) < (xm.n3 : Int)) = false := by simp
     have hyes : rs = true := by
      rw [hap.out, List.drop_of_length_le (by rw [hx.e3]; exact Nat.le_refl _)]
      rfl
     have hfin := hall.out
     rw [hyes] at hfin
     cases hd_ with
     | true =>
      have hmp : mx = pm := by
       rw [Bool.eq_iff_iff, hfin]
       simp
      have HMP := Lib.hid hmp
      clear hfin hyes hmp hap hall
      go_wp2_with (
       (first
        |((with_reducible refine own_loadg1 hO ?_ _ rfl rfl _ Tryz.underlying44 rfl (trC_info x xm) ?_); (· first | rfl | (simp [Region.wanted, yielded]; done)))
        |(go_at_call 57; (with_reducible refine (hru _).mono ?_); rintro e w1 ⟨rfl, hb1⟩; replace hO := hO.grow hb1; have hcl1 := hO.b0.cell; have hcx1 := hO.b1.cell)
        |(go_at_call 58; (with_reducible refine (hsm _).mono ?_); rintro e w2 ⟨rfl, hb2⟩; replace hO := hO.grow hb2; have hcl2 := hO.b0.cell; have hcx2 := hO.b1.cell)
        |(go_at_call 59; (with_reducible refine (hti _).mono ?_); rintro e w3 ⟨rfl, hw3⟩; obtain rfl := hw3.symm)
        |(go_at_call 27; (with_reducible refine (htk _).mono ?_); rintro e w4 ⟨rfl, hw4⟩; obtain rfl := hw4.symm)
        |(go_at_call 60; (with_reducible refine (hri _ hO.below).mono ?_); rintro e w5 ⟨rfl, hb5⟩; replace hO := hO.grow hb5; have hcl5 := hO.b0.cell; have hcx5 := hO.b1.cell)
        |(go_at_call 61; (with_reducible refine (hbal _ hO.below).mono ?_); rintro e w6 ⟨rfl, hb6⟩; replace hO := Own.new2 (hO.grow hb6) 93 #[.int .i64 y1, .int .i64 y2, .int .i64 y3]; have hcl6 := hO.b0.cell; have hcx6 := hO.b1.cell)
        |(go_at_call 62; (with_reducible refine (hpm _ hO.below).mono ?_); rintro e w7 ⟨rfl, hb7⟩; replace hO := hO.grow hb7)
        |(go_at_call 63; (with_reducible refine (hbl _ hO.below).mono ?_); rintro e w8 ⟨rfl, hb8⟩; replace hO := hO.grow hb8; have hcx8 := hO.b1.cell))
       )
      go_ret
      exact ⟨by rw [HMP.out]; simp, hO.below⟩
     | false =>
      cases bl with
      | false =>
       have hmp : mx = false := by
        rw [Bool.eq_false_iff, Ne, hfin]
        simp
       have HMP := Lib.hid hmp
       clear hfin hyes hmp hap hall
       go_wp2_with (
        (first
         |((with_reducible refine own_loadg1 hO ?_ _ rfl rfl _ Tryz.underlying44 rfl (trC_info x xm) ?_); (· first | rfl | (simp [Region.wanted, yielded]; done)))
         |(go_at_call 57; (with_reducible refine (hru _).mono ?_); rintro e w1 ⟨rfl, hb1⟩; replace hO := hO.grow hb1; have hcl1 := hO.b0.cell; have hcx1 := hO.b1.cell)
         |(go_at_call 58; (with_reducible refine (hsm _).mono ?_); rintro e w2 ⟨rfl, hb2⟩; replace hO := hO.grow hb2; have hcl2 := hO.b0.cell; have hcx2 := hO.b1.cell)
         |(go_at_call 59; (with_reducible refine (hti _).mono ?_); rintro e w3 ⟨rfl, hw3⟩; obtain rfl := hw3.symm)
         |(go_at_call 27; (with_reducible refine (htk _).mono ?_); rintro e w4 ⟨rfl, hw4⟩; obtain rfl := hw4.symm)
         |(go_at_call 60; (with_reducible refine (hri _ hO.below).mono ?_); rintro e w5 ⟨rfl, hb5⟩; replace hO := hO.grow hb5; have hcl5 := hO.b0.cell; have hcx5 := hO.b1.cell)
         |(go_at_call 61; (with_reducible refine (hbal _ hO.below).mono ?_); rintro e w6 ⟨rfl, hb6⟩; replace hO := Own.new2 (hO.grow hb6) 93 #[.int .i64 y1, .int .i64 y2, .int .i64 y3]; have hcl6 := hO.b0.cell; have hcx6 := hO.b1.cell)
         |(go_at_call 62; (with_reducible refine (hpm _ hO.below).mono ?_); rintro e w7 ⟨rfl, hb7⟩; replace hO := hO.grow hb7)
         |(go_at_call 63; (with_reducible refine (hbl _ hO.below).mono ?_); rintro e w8 ⟨rfl, hb8⟩; replace hO := hO.grow hb8; have hcx8 := hO.b1.cell))
        )
       go_ret
       exact ⟨by rw [HMP.out]; simp, hO.below⟩
      | true =>
       have hmp : mx = decide (x.at_ = 0) := by
        rw [Bool.eq_iff_iff, hfin]
        simp
       have HMP := Lib.hid hmp
       clear hfin hyes hmp hap hall
       go_wp2_with (
        (first
         |((with_reducible refine own_loadg1 hO ?_ _ rfl rfl _ Tryz.underlying44 rfl (trC_info x xm) ?_); (· first | rfl | (simp [Region.wanted, yielded]; done)))
         |(go_at_call 57; (with_reducible refine (hru _).mono ?_); rintro e w1 ⟨rfl, hb1⟩; replace hO := hO.grow hb1; have hcl1 := hO.b0.cell; have hcx1 := hO.b1.cell)
         |(go_at_call 58; (with_reducible refine (hsm _).mono ?_); rintro e w2 ⟨rfl, hb2⟩; replace hO := hO.grow hb2; have hcl2 := hO.b0.cell; have hcx2 := hO.b1.cell)
         |(go_at_call 59; (with_reducible refine (hti _).mono ?_); rintro e w3 ⟨rfl, hw3⟩; obtain rfl := hw3.symm)
         |(go_at_call 27; (with_reducible refine (htk _).mono ?_); rintro e w4 ⟨rfl, hw4⟩; obtain rfl := hw4.symm)
         |(go_at_call 60; (with_reducible refine (hri _ hO.below).mono ?_); rintro e w5 ⟨rfl, hb5⟩; replace hO := hO.grow hb5; have hcl5 := hO.b0.cell; have hcx5 := hO.b1.cell)
         |(go_at_call 61; (with_reducible refine (hbal _ hO.below).mono ?_); rintro e w6 ⟨rfl, hb6⟩; replace hO := Own.new2 (hO.grow hb6) 93 #[.int .i64 y1, .int .i64 y2, .int .i64 y3]; have hcl6 := hO.b0.cell; have hcx6 := hO.b1.cell)
         |(go_at_call 62; (with_reducible refine (hpm _ hO.below).mono ?_); rintro e w7 ⟨rfl, hb7⟩; replace hO := hO.grow hb7)
         |(go_at_call 63; (with_reducible refine (hbl _ hO.below).mono ?_); rintro e w8 ⟨rfl, hb8⟩; replace hO := hO.grow hb8; have hcx8 := hO.b1.cell))
        )
       go_ret
       refine ⟨?_, hO.below⟩
       rw [HMP.out]
       by_cases h0 : x.at_ = 0 <;> simp [h0]
     --> LR
  ·
   have f6 : (x.train != x.id) = true := by simpa using g6
   replace g6 := Lib.hid g6
   obtain rfl : mx = false := Bool.eq_false_iff.2 fun hh => by
    obtain ⟨⟨k1, k2, k3, k4, k5, k6, k7⟩, q1, q2, q3, q4, q5, q6, q7, q8, q9, q10, q11, q12⟩ := HM.out.1 hh
    exact g6.out q6
   go_enter Tryz.func23, Tryz.ntmps23
   go_wp2_with (
    (first
     |((with_reducible refine own_loadg1 hO ?_ _ rfl rfl _ Tryz.underlying44 rfl (trC_info x xm) ?_); (· first | rfl | (simp [Region.wanted, yielded]; done)))
     |(go_at_call 57; (with_reducible refine (hru _).mono ?_); rintro e w1 ⟨rfl, hb1⟩; replace hO := hO.grow hb1; have hcl1 := hO.b0.cell; have hcx1 := hO.b1.cell)
     |(go_at_call 58; (with_reducible refine (hsm _).mono ?_); rintro e w2 ⟨rfl, hb2⟩; replace hO := hO.grow hb2; have hcl2 := hO.b0.cell; have hcx2 := hO.b1.cell)
     |(go_at_call 59; (with_reducible refine (hti _).mono ?_); rintro e w3 ⟨rfl, hw3⟩; obtain rfl := hw3.symm)
     |(go_at_call 27; (with_reducible refine (htk _).mono ?_); rintro e w4 ⟨rfl, hw4⟩; obtain rfl := hw4.symm)
     |(go_at_call 60; (with_reducible refine (hri _ hO.below).mono ?_); rintro e w5 ⟨rfl, hb5⟩; replace hO := hO.grow hb5; have hcl5 := hO.b0.cell; have hcx5 := hO.b1.cell)
     |(go_at_call 61; (with_reducible refine (hbal _ hO.below).mono ?_); rintro e w6 ⟨rfl, hb6⟩; replace hO := Own.new2 (hO.grow hb6) 93 #[.int .i64 y1, .int .i64 y2, .int .i64 y3]; have hcl6 := hO.b0.cell; have hcx6 := hO.b1.cell)
     |(go_at_call 62; (with_reducible refine (hpm _ hO.below).mono ?_); rintro e w7 ⟨rfl, hb7⟩; replace hO := hO.grow hb7)
     |(go_at_call 63; (with_reducible refine (hbl _ hO.below).mono ?_); rintro e w8 ⟨rfl, hb8⟩; replace hO := hO.grow hb8; have hcx8 := hO.b1.cell))
    )
   go_ret
   exact ⟨rfl, hO.below⟩
 ·
  have f5 : (x.side != 0) = true := by simpa using g5
  replace g5 := Lib.hid g5
  obtain rfl : mx = false := Bool.eq_false_iff.2 fun hh => by
   obtain ⟨⟨k1, k2, k3, k4, k5, k6, k7⟩, q1, q2, q3, q4, q5, q6, q7, q8, q9, q10, q11, q12⟩ := HM.out.1 hh
   exact g5.out q5
  go_enter Tryz.func23, Tryz.ntmps23
  go_wp2_with (
   (first
    |((with_reducible refine own_loadg1 hO ?_ _ rfl rfl _ Tryz.underlying44 rfl (trC_info x xm) ?_); (· first | rfl | (simp [Region.wanted, yielded]; done)))
    |(go_at_call 57; (with_reducible refine (hru _).mono ?_); rintro e w1 ⟨rfl, hb1⟩; replace hO := hO.grow hb1; have hcl1 := hO.b0.cell; have hcx1 := hO.b1.cell)
    |(go_at_call 58; (with_reducible refine (hsm _).mono ?_); rintro e w2 ⟨rfl, hb2⟩; replace hO := hO.grow hb2; have hcl2 := hO.b0.cell; have hcx2 := hO.b1.cell)
    |(go_at_call 59; (with_reducible refine (hti _).mono ?_); rintro e w3 ⟨rfl, hw3⟩; obtain rfl := hw3.symm)
    |(go_at_call 27; (with_reducible refine (htk _).mono ?_); rintro e w4 ⟨rfl, hw4⟩; obtain rfl := hw4.symm)
    |(go_at_call 60; (with_reducible refine (hri _ hO.below).mono ?_); rintro e w5 ⟨rfl, hb5⟩; replace hO := hO.grow hb5; have hcl5 := hO.b0.cell; have hcx5 := hO.b1.cell)
    |(go_at_call 61; (with_reducible refine (hbal _ hO.below).mono ?_); rintro e w6 ⟨rfl, hb6⟩; replace hO := Own.new2 (hO.grow hb6) 93 #[.int .i64 y1, .int .i64 y2, .int .i64 y3]; have hcl6 := hO.b0.cell; have hcx6 := hO.b1.cell)
    |(go_at_call 62; (with_reducible refine (hpm _ hO.below).mono ?_); rintro e w7 ⟨rfl, hb7⟩; replace hO := hO.grow hb7)
    |(go_at_call 63; (with_reducible refine (hbl _ hO.below).mono ?_); rintro e w8 ⟨rfl, hb8⟩; replace hO := hO.grow hb8; have hcx8 := hO.b1.cell))
   )
  go_ret
  exact ⟨rfl, hO.below⟩
end Go.Proofs.YtkaggddmhjifjaaGreatDoor
