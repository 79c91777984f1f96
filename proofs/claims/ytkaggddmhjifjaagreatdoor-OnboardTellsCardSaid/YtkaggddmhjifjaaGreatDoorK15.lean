/- Texts in one: BoardMay BoardD. -/
import Derived.Test.YtkaggddmhjifjaaGreatDoorK14
set_option linter.unusedSimpArgs false
set_option linter.unusedVariables false
namespace Go.Proofs.YtkaggddmhjifjaaGreatDoor
open Go.RowKit Go.Shelf
theorem mayX_iff (t : Tp) (x : Tr) : mayX t x = true ↔ (rulesP x.rl = true ∧ stampMay x.sl x.sa x.sb = true ∧ rightT t x.pos = true ∧ risingP (-1) x.stops = true ∧ (balT t x.ref).isSome = true ∧ (x.held = true → mayP t x.ma = true) ∧ (x.held = false → blankP x.ma = true ∧ x.at_ = 0)) ∧ 0 ≤ x.id ∧ x.id < 16777216 ∧ 1 ≤ x.len ∧ x.len ≤ 32766 ∧ x.side = 0 ∧ x.train = x.id ∧ -1 ≤ x.last ∧ x.last ≤ 4294967294 ∧ 0 ≤ x.past ∧ x.past ≤ 1099511627776 ∧ 0 ≤ x.at_ ∧ x.at_ ≤ 268435456 := by
 unfold mayX stampMay
 cases x.held <;> simp only [Bool.and_eq_true, decide_eq_true_eq, Bool.or_eq_true, if_true, Bool.false_eq_true, if_false, reduceCtorEq, false_implies, true_implies, forall_const] <;> constructor
 ·
  rintro ⟨⟨⟨⟨⟨⟨⟨⟨⟨⟨⟨⟨⟨⟨⟨⟨⟨⟨⟨h1, h2⟩, h3⟩, h4⟩, h5⟩, h6⟩, h7⟩, h8⟩, h9⟩, h10⟩, h11⟩, h12⟩, h13⟩, h14⟩, h15⟩, h16⟩, h17⟩, h18⟩, h19⟩, h20⟩
  exact ⟨⟨h1, ⟨⟨h8, h9⟩, h10⟩, h13, h16, h17, trivial, h20⟩, h2, h3, h4, h5, h6, h7, h11, h12, h14, h15, h18, h19⟩
 ·
  rintro ⟨⟨h1, ⟨⟨h8, h9⟩, h10⟩, h13, h16, h17, _, h20⟩, h2, h3, h4, h5, h6, h7, h11, h12, h14, h15, h18, h19⟩
  exact ⟨⟨⟨⟨⟨⟨⟨⟨⟨⟨⟨⟨⟨⟨⟨⟨⟨⟨⟨h1, h2⟩, h3⟩, h4⟩, h5⟩, h6⟩, h7⟩, h8⟩, h9⟩, h10⟩, h11⟩, h12⟩, h13⟩, h14⟩, h15⟩, h16⟩, h17⟩, h18⟩, h19⟩, h20⟩
 ·
  rintro ⟨⟨⟨⟨⟨⟨⟨⟨⟨⟨⟨⟨⟨⟨⟨⟨⟨⟨⟨h1, h2⟩, h3⟩, h4⟩, h5⟩, h6⟩, h7⟩, h8⟩, h9⟩, h10⟩, h11⟩, h12⟩, h13⟩, h14⟩, h15⟩, h16⟩, h17⟩, h18⟩, h19⟩, h20⟩
  exact ⟨⟨h1, ⟨⟨h8, h9⟩, h10⟩, h13, h16, h17, h20, trivial⟩, h2, h3, h4, h5, h6, h7, h11, h12, h14, h15, h18, h19⟩
 ·
  rintro ⟨⟨h1, ⟨⟨h8, h9⟩, h10⟩, h13, h16, h17, h20, _⟩, h2, h3, h4, h5, h6, h7, h11, h12, h14, h15, h18, h19⟩
  exact ⟨⟨⟨⟨⟨⟨⟨⟨⟨⟨⟨⟨⟨⟨⟨⟨⟨⟨⟨h1, h2⟩, h3⟩, h4⟩, h5⟩, h6⟩, h7⟩, h8⟩, h9⟩, h10⟩, h11⟩, h12⟩, h13⟩, h14⟩, h15⟩, h16⟩, h17⟩, h18⟩, h19⟩, h20⟩
set_option maxRecDepth 8000 in
set_option maxHeartbeats 16000000 in
theorem mayX_m {w : World} {t : Tp} {m : TpM} (h : TpIs w t m) (x : Tr) (xm : TrM) (hx : TrIs w x xm) : Calls Tryz.prog 19 #[.agg m.cells, .agg (trC x xm)] w fun e w' => e = .returned (.bool (mayX t x)) ∧ Below w.heap.size w w' := by
 have hO : Own w _ [_, _] := Own.start2 w 27 44 m.cells (trC x xm)
 have hcl := hO.b0.cell
 have hcx := hO.b1.cell
 have hru := fun W => rules_k x.rl W
 have hsm := fun W => smay_k x.sl x.sa x.sb x.free W
 have hri := fun W (hW : Below w.heap.size w W) => right_m (h.below hW) x.pos
 have hrs := fun W (hW : Below w.heap.size w W) => rising_k xm.A3 xm.n3 xm.c3 x.stops W (hx.stops.below hW) hx.e3 hx.l3
 have hbal := fun W (hW : Below w.heap.size w W) => bal_m (h.below hW) x.ref
 have hpm := fun W (hW : Below w.heap.size w W) => mayP_m (h.below hW) x.ma xm.v (hx.ma.below hW)
 have hbl := fun W (hW : Below w.heap.size w W) => blank_k x.ma xm.v W (hx.ma.below hW)
 have hM := mayX_iff t x
 generalize mayX t x = mx at *
 generalize rulesP x.rl = ru at *
 generalize stampMay x.sl x.sa x.sb = sm at *
 generalize rightT t x.pos = ri at *
 generalize risingP (-1) x.stops = rs at *
 generalize mayP t x.ma = pm at *
 generalize blankP x.ma = bl at *
 generalize (balT t x.ref).isSome = ib at *
 generalize hy : (balT t x.ref).getD ⟨0, 0, 0⟩ = y at *
 obtain ⟨y1, y2, y3⟩ := y
 have HM := Lib.hid hM
 clear hM hy
 have t0 := tr0 x xm
 have t0 := tr0 x xm
 have t1 := tr1 x xm
 have t2 := tr2 x xm
 have t3 := tr3 x xm
 have t4 := tr4 x xm
 have t5 := tr5 x xm
 have t6 := tr6 x xm
 have t7 := tr7 x xm
 have t8 := tr8 x xm
 have t9 := tr9 x xm
 have t10 := tr10 x xm
 have t11 := tr11 x xm
 have t12 := tr12 x xm
 have t28 := tr28 x xm
 have t29 := tr29 x xm
 have t30 := tr30 x xm
 have t31 := tr31 x xm
 have t32 := tr32 x xm
 have t33 := tr33 x xm
 have t34 := tr34 x xm
 have t35 := tr35 x xm
 have t36 := tr36 x xm
 have t37 := tr37 x xm
 have t38 := tr38 x xm
 have t39 := tr39 x xm
 have t40 := tr40 x xm
 have t41 := tr41 x xm
 have t42 := tr42 x xm
 have t43 := tr43 x xm
 have t44 := tr44 x xm
 have t45 := tr45 x xm
 have t46 := tr46 x xm
 have t47 := tr47 x xm
 unfold maC at hpm hbl
 unfold TpM.cells at *
 cases ru with
 | false =>
  obtain rfl : mx = false := Bool.eq_false_iff.2 fun hh => by have := HM.out.1 hh; simp at this
  go_enter Tryz.func19, Tryz.ntmps19
  go_wp2_with (first
   |(go_at_call 46; (with_reducible refine (hru _).mono ?_); rintro e w1 ⟨rfl, hb1⟩; replace hO := hO.grow hb1; have hcl1 := hO.b0.cell; have hcx1 := hO.b1.cell)
   |(go_at_call 47; (with_reducible refine (hsm _).mono ?_); rintro e w2 ⟨rfl, hb2⟩; replace hO := hO.grow hb2; have hcl2 := hO.b0.cell; have hcx2 := hO.b1.cell)
   |(go_at_call 48; (with_reducible refine (hri _ hO.below).mono ?_); rintro e w3 ⟨rfl, hb3⟩; replace hO := hO.grow hb3; have hcl3 := hO.b0.cell; have hcx3 := hO.b1.cell)
   |(go_at_call 49; (with_reducible refine (hrs _ hO.below).mono ?_); rintro e w4 ⟨rfl, rfl⟩)
   |(go_at_call 50; (with_reducible refine (hbal _ hO.below).mono ?_); rintro e w5 ⟨rfl, hb5⟩; replace hO := Own.new2 (hO.grow hb5) 93 #[.int .i64 y1, .int .i64 y2, .int .i64 y3]; have hcl5 := hO.b0.cell; have hcx5 := hO.b1.cell)
   |(go_at_call 51; (with_reducible refine (hpm _ hO.below).mono ?_); rintro e w6 ⟨rfl, hb6⟩; replace hO := hO.grow hb6)
   |(go_at_call 52; (with_reducible refine (hbl _ hO.below).mono ?_); rintro e w7 ⟨rfl, hb7⟩; replace hO := hO.grow hb7; have hcx7 := hO.b1.cell))
  go_ret
  exact ⟨rfl, hO.below⟩
 | true =>
 by_cases g1 : x.id < 0
 ·
  have f1 : decide (x.id < 0) = true := by simpa using g1
  obtain rfl : mx = false := Bool.eq_false_iff.2 fun hh => by have := HM.out.1 hh; omega
  go_enter Tryz.func19, Tryz.ntmps19
  go_wp2_with (first
   |(go_at_call 46; (with_reducible refine (hru _).mono ?_); rintro e w1 ⟨rfl, hb1⟩; replace hO := hO.grow hb1; have hcl1 := hO.b0.cell; have hcx1 := hO.b1.cell)
   |(go_at_call 47; (with_reducible refine (hsm _).mono ?_); rintro e w2 ⟨rfl, hb2⟩; replace hO := hO.grow hb2; have hcl2 := hO.b0.cell; have hcx2 := hO.b1.cell)
   |(go_at_call 48; (with_reducible refine (hri _ hO.below).mono ?_); rintro e w3 ⟨rfl, hb3⟩; replace hO := hO.grow hb3; have hcl3 := hO.b0.cell; have hcx3 := hO.b1.cell)
   |(go_at_call 49; (with_reducible refine (hrs _ hO.below).mono ?_); rintro e w4 ⟨rfl, rfl⟩)
   |(go_at_call 50; (with_reducible refine (hbal _ hO.below).mono ?_); rintro e w5 ⟨rfl, hb5⟩; replace hO := Own.new2 (hO.grow hb5) 93 #[.int .i64 y1, .int .i64 y2, .int .i64 y3]; have hcl5 := hO.b0.cell; have hcx5 := hO.b1.cell)
   |(go_at_call 51; (with_reducible refine (hpm _ hO.below).mono ?_); rintro e w6 ⟨rfl, hb6⟩; replace hO := hO.grow hb6)
   |(go_at_call 52; (with_reducible refine (hbl _ hO.below).mono ?_); rintro e w7 ⟨rfl, hb7⟩; replace hO := hO.grow hb7; have hcx7 := hO.b1.cell))
  go_ret
  exact ⟨rfl, hO.below⟩
 have f1 : decide (x.id < 0) = false := by simpa using g1
 by_cases g2 : 16777216 ≤ x.id
 ·
  have f2 : decide (16777216 ≤ x.id) = true := by simpa using g2
  obtain rfl : mx = false := Bool.eq_false_iff.2 fun hh => by have := HM.out.1 hh; omega
  go_enter Tryz.func19, Tryz.ntmps19
  go_wp2_with (first
   |(go_at_call 46; (with_reducible refine (hru _).mono ?_); rintro e w1 ⟨rfl, hb1⟩; replace hO := hO.grow hb1; have hcl1 := hO.b0.cell; have hcx1 := hO.b1.cell)
   |(go_at_call 47; (with_reducible refine (hsm _).mono ?_); rintro e w2 ⟨rfl, hb2⟩; replace hO := hO.grow hb2; have hcl2 := hO.b0.cell; have hcx2 := hO.b1.cell)
   |(go_at_call 48; (with_reducible refine (hri _ hO.below).mono ?_); rintro e w3 ⟨rfl, hb3⟩; replace hO := hO.grow hb3; have hcl3 := hO.b0.cell; have hcx3 := hO.b1.cell)
   |(go_at_call 49; (with_reducible refine (hrs _ hO.below).mono ?_); rintro e w4 ⟨rfl, rfl⟩)
   |(go_at_call 50; (with_reducible refine (hbal _ hO.below).mono ?_); rintro e w5 ⟨rfl, hb5⟩; replace hO := Own.new2 (hO.grow hb5) 93 #[.int .i64 y1, .int .i64 y2, .int .i64 y3]; have hcl5 := hO.b0.cell; have hcx5 := hO.b1.cell)
   |(go_at_call 51; (with_reducible refine (hpm _ hO.below).mono ?_); rintro e w6 ⟨rfl, hb6⟩; replace hO := hO.grow hb6)
   |(go_at_call 52; (with_reducible refine (hbl _ hO.below).mono ?_); rintro e w7 ⟨rfl, hb7⟩; replace hO := hO.grow hb7; have hcx7 := hO.b1.cell))
  go_ret
  exact ⟨rfl, hO.below⟩
 have f2 : decide (16777216 ≤ x.id) = false := by simpa using g2
 by_cases g3 : x.len < 1
 ·
  have f3 : decide (x.len < 1) = true := by simpa using g3
  obtain rfl : mx = false := Bool.eq_false_iff.2 fun hh => by have := HM.out.1 hh; omega
  go_enter Tryz.func19, Tryz.ntmps19
  go_wp2_with (first
   |(go_at_call 46; (with_reducible refine (hru _).mono ?_); rintro e w1 ⟨rfl, hb1⟩; replace hO := hO.grow hb1; have hcl1 := hO.b0.cell; have hcx1 := hO.b1.cell)
   |(go_at_call 47; (with_reducible refine (hsm _).mono ?_); rintro e w2 ⟨rfl, hb2⟩; replace hO := hO.grow hb2; have hcl2 := hO.b0.cell; have hcx2 := hO.b1.cell)
   |(go_at_call 48; (with_reducible refine (hri _ hO.below).mono ?_); rintro e w3 ⟨rfl, hb3⟩; replace hO := hO.grow hb3; have hcl3 := hO.b0.cell; have hcx3 := hO.b1.cell)
   |(go_at_call 49; (with_reducible refine (hrs _ hO.below).mono ?_); rintro e w4 ⟨rfl, rfl⟩)
   |(go_at_call 50; (with_reducible refine (hbal _ hO.below).mono ?_); rintro e w5 ⟨rfl, hb5⟩; replace hO := Own.new2 (hO.grow hb5) 93 #[.int .i64 y1, .int .i64 y2, .int .i64 y3]; have hcl5 := hO.b0.cell; have hcx5 := hO.b1.cell)
   |(go_at_call 51; (with_reducible refine (hpm _ hO.below).mono ?_); rintro e w6 ⟨rfl, hb6⟩; replace hO := hO.grow hb6)
   |(go_at_call 52; (with_reducible refine (hbl _ hO.below).mono ?_); rintro e w7 ⟨rfl, hb7⟩; replace hO := hO.grow hb7; have hcx7 := hO.b1.cell))
  go_ret
  exact ⟨rfl, hO.below⟩
 have f3 : decide (x.len < 1) = false := by simpa using g3
 by_cases g4 : 32766 < x.len
 ·
  have f4 : decide (32766 < x.len) = true := by simpa using g4
  obtain rfl : mx = false := Bool.eq_false_iff.2 fun hh => by have := HM.out.1 hh; omega
  go_enter Tryz.func19, Tryz.ntmps19
  go_wp2_with (first
   |(go_at_call 46; (with_reducible refine (hru _).mono ?_); rintro e w1 ⟨rfl, hb1⟩; replace hO := hO.grow hb1; have hcl1 := hO.b0.cell; have hcx1 := hO.b1.cell)
   |(go_at_call 47; (with_reducible refine (hsm _).mono ?_); rintro e w2 ⟨rfl, hb2⟩; replace hO := hO.grow hb2; have hcl2 := hO.b0.cell; have hcx2 := hO.b1.cell)
   |(go_at_call 48; (with_reducible refine (hri _ hO.below).mono ?_); rintro e w3 ⟨rfl, hb3⟩; replace hO := hO.grow hb3; have hcl3 := hO.b0.cell; have hcx3 := hO.b1.cell)
   |(go_at_call 49; (with_reducible refine (hrs _ hO.below).mono ?_); rintro e w4 ⟨rfl, rfl⟩)
   |(go_at_call 50; (with_reducible refine (hbal _ hO.below).mono ?_); rintro e w5 ⟨rfl, hb5⟩; replace hO := Own.new2 (hO.grow hb5) 93 #[.int .i64 y1, .int .i64 y2, .int .i64 y3]; have hcl5 := hO.b0.cell; have hcx5 := hO.b1.cell)
   |(go_at_call 51; (with_reducible refine (hpm _ hO.below).mono ?_); rintro e w6 ⟨rfl, hb6⟩; replace hO := hO.grow hb6)
   |(go_at_call 52; (with_reducible refine (hbl _ hO.below).mono ?_); rintro e w7 ⟨rfl, hb7⟩; replace hO := hO.grow hb7; have hcx7 := hO.b1.cell))
  go_ret
  exact ⟨rfl, hO.below⟩
 have f4 : decide (32766 < x.len) = false := by simpa using g4
 by_cases g5 : x.side = 0
 case neg =>
  have f5 : (x.side != 0) = true := by simpa using g5
  obtain rfl : mx = false := Bool.eq_false_iff.2 fun hh => by have := HM.out.1 hh; omega
  clear g5
  go_enter Tryz.func19, Tryz.ntmps19
  go_wp2_with (first
   |(go_at_call 46; (with_reducible refine (hru _).mono ?_); rintro e w1 ⟨rfl, hb1⟩; replace hO := hO.grow hb1; have hcl1 := hO.b0.cell; have hcx1 := hO.b1.cell)
   |(go_at_call 47; (with_reducible refine (hsm _).mono ?_); rintro e w2 ⟨rfl, hb2⟩; replace hO := hO.grow hb2; have hcl2 := hO.b0.cell; have hcx2 := hO.b1.cell)
   |(go_at_call 48; (with_reducible refine (hri _ hO.below).mono ?_); rintro e w3 ⟨rfl, hb3⟩; replace hO := hO.grow hb3; have hcl3 := hO.b0.cell; have hcx3 := hO.b1.cell)
   |(go_at_call 49; (with_reducible refine (hrs _ hO.below).mono ?_); rintro e w4 ⟨rfl, rfl⟩)
   |(go_at_call 50; (with_reducible refine (hbal _ hO.below).mono ?_); rintro e w5 ⟨rfl, hb5⟩; replace hO := Own.new2 (hO.grow hb5) 93 #[.int .i64 y1, .int .i64 y2, .int .i64 y3]; have hcl5 := hO.b0.cell; have hcx5 := hO.b1.cell)
   |(go_at_call 51; (with_reducible refine (hpm _ hO.below).mono ?_); rintro e w6 ⟨rfl, hb6⟩; replace hO := hO.grow hb6)
   |(go_at_call 52; (with_reducible refine (hbl _ hO.below).mono ?_); rintro e w7 ⟨rfl, hb7⟩; replace hO := hO.grow hb7; have hcx7 := hO.b1.cell))
  go_ret
  exact ⟨rfl, hO.below⟩
 have f5 : (x.side != 0) = false := by simpa using g5
 have G5 := Lib.hid g5
 clear g5
 by_cases g6 : x.train = x.id
 case neg =>
  have f6 : (x.train != x.id) = true := by simpa using g6
  obtain rfl : mx = false := Bool.eq_false_iff.2 fun hh => by have := HM.out.1 hh; omega
  clear g6
  go_enter Tryz.func19, Tryz.ntmps19
  go_wp2_with (first
   |(go_at_call 46; (with_reducible refine (hru _).mono ?_); rintro e w1 ⟨rfl, hb1⟩; replace hO := hO.grow hb1; have hcl1 := hO.b0.cell; have hcx1 := hO.b1.cell)
   |(go_at_call 47; (with_reducible refine (hsm _).mono ?_); rintro e w2 ⟨rfl, hb2⟩; replace hO := hO.grow hb2; have hcl2 := hO.b0.cell; have hcx2 := hO.b1.cell)
   |(go_at_call 48; (with_reducible refine (hri _ hO.below).mono ?_); rintro e w3 ⟨rfl, hb3⟩; replace hO := hO.grow hb3; have hcl3 := hO.b0.cell; have hcx3 := hO.b1.cell)
   |(go_at_call 49; (with_reducible refine (hrs _ hO.below).mono ?_); rintro e w4 ⟨rfl, rfl⟩)
   |(go_at_call 50; (with_reducible refine (hbal _ hO.below).mono ?_); rintro e w5 ⟨rfl, hb5⟩; replace hO := Own.new2 (hO.grow hb5) 93 #[.int .i64 y1, .int .i64 y2, .int .i64 y3]; have hcl5 := hO.b0.cell; have hcx5 := hO.b1.cell)
   |(go_at_call 51; (with_reducible refine (hpm _ hO.below).mono ?_); rintro e w6 ⟨rfl, hb6⟩; replace hO := hO.grow hb6)
   |(go_at_call 52; (with_reducible refine (hbl _ hO.below).mono ?_); rintro e w7 ⟨rfl, hb7⟩; replace hO := hO.grow hb7; have hcx7 := hO.b1.cell))
  go_ret
  exact ⟨rfl, hO.below⟩
 have f6 : (x.train != x.id) = false := by simpa using g6
 have G6 := Lib.hid g6
 clear g6
 cases sm with
 | false =>
  obtain rfl : mx = false := Bool.eq_false_iff.2 fun hh => by have := HM.out.1 hh; simp at this
  go_enter Tryz.func19, Tryz.ntmps19
  go_wp2_with (first
   |(go_at_call 46; (with_reducible refine (hru _).mono ?_); rintro e w1 ⟨rfl, hb1⟩; replace hO := hO.grow hb1; have hcl1 := hO.b0.cell; have hcx1 := hO.b1.cell)
   |(go_at_call 47; (with_reducible refine (hsm _).mono ?_); rintro e w2 ⟨rfl, hb2⟩; replace hO := hO.grow hb2; have hcl2 := hO.b0.cell; have hcx2 := hO.b1.cell)
   |(go_at_call 48; (with_reducible refine (hri _ hO.below).mono ?_); rintro e w3 ⟨rfl, hb3⟩; replace hO := hO.grow hb3; have hcl3 := hO.b0.cell; have hcx3 := hO.b1.cell)
   |(go_at_call 49; (with_reducible refine (hrs _ hO.below).mono ?_); rintro e w4 ⟨rfl, rfl⟩)
   |(go_at_call 50; (with_reducible refine (hbal _ hO.below).mono ?_); rintro e w5 ⟨rfl, hb5⟩; replace hO := Own.new2 (hO.grow hb5) 93 #[.int .i64 y1, .int .i64 y2, .int .i64 y3]; have hcl5 := hO.b0.cell; have hcx5 := hO.b1.cell)
   |(go_at_call 51; (with_reducible refine (hpm _ hO.below).mono ?_); rintro e w6 ⟨rfl, hb6⟩; replace hO := hO.grow hb6)
   |(go_at_call 52; (with_reducible refine (hbl _ hO.below).mono ?_); rintro e w7 ⟨rfl, hb7⟩; replace hO := hO.grow hb7; have hcx7 := hO.b1.cell))
  go_ret
  exact ⟨rfl, hO.below⟩
 | true =>
 by_cases g8 : x.last < -1
 ·
  have f8 : decide (x.last < -1) = true := by simpa using g8
  obtain rfl : mx = false := Bool.eq_false_iff.2 fun hh => by have := HM.out.1 hh; omega
  go_enter Tryz.func19, Tryz.ntmps19
  go_wp2_with (first
   |(go_at_call 46; (with_reducible refine (hru _).mono ?_); rintro e w1 ⟨rfl, hb1⟩; replace hO := hO.grow hb1; have hcl1 := hO.b0.cell; have hcx1 := hO.b1.cell)
   |(go_at_call 47; (with_reducible refine (hsm _).mono ?_); rintro e w2 ⟨rfl, hb2⟩; replace hO := hO.grow hb2; have hcl2 := hO.b0.cell; have hcx2 := hO.b1.cell)
   |(go_at_call 48; (with_reducible refine (hri _ hO.below).mono ?_); rintro e w3 ⟨rfl, hb3⟩; replace hO := hO.grow hb3; have hcl3 := hO.b0.cell; have hcx3 := hO.b1.cell)
   |(go_at_call 49; (with_reducible refine (hrs _ hO.below).mono ?_); rintro e w4 ⟨rfl, rfl⟩)
   |(go_at_call 50; (with_reducible refine (hbal _ hO.below).mono ?_); rintro e w5 ⟨rfl, hb5⟩; replace hO := Own.new2 (hO.grow hb5) 93 #[.int .i64 y1, .int .i64 y2, .int .i64 y3]; have hcl5 := hO.b0.cell; have hcx5 := hO.b1.cell)
   |(go_at_call 51; (with_reducible refine (hpm _ hO.below).mono ?_); rintro e w6 ⟨rfl, hb6⟩; replace hO := hO.grow hb6)
   |(go_at_call 52; (with_reducible refine (hbl _ hO.below).mono ?_); rintro e w7 ⟨rfl, hb7⟩; replace hO := hO.grow hb7; have hcx7 := hO.b1.cell))
  go_ret
  exact ⟨rfl, hO.below⟩
 have f8 : decide (x.last < -1) = false := by simpa using g8
 by_cases g9 : 4294967294 < x.last
 ·
  have f9 : decide (4294967294 < x.last) = true := by simpa using g9
  obtain rfl : mx = false := Bool.eq_false_iff.2 fun hh => by have := HM.out.1 hh; omega
  go_enter Tryz.func19, Tryz.ntmps19
  go_wp2_with (first
   |(go_at_call 46; (with_reducible refine (hru _).mono ?_); rintro e w1 ⟨rfl, hb1⟩; replace hO := hO.grow hb1; have hcl1 := hO.b0.cell; have hcx1 := hO.b1.cell)
   |(go_at_call 47; (with_reducible refine (hsm _).mono ?_); rintro e w2 ⟨rfl, hb2⟩; replace hO := hO.grow hb2; have hcl2 := hO.b0.cell; have hcx2 := hO.b1.cell)
   |(go_at_call 48; (with_reducible refine (hri _ hO.below).mono ?_); rintro e w3 ⟨rfl, hb3⟩; replace hO := hO.grow hb3; have hcl3 := hO.b0.cell; have hcx3 := hO.b1.cell)
   |(go_at_call 49; (with_reducible refine (hrs _ hO.below).mono ?_); rintro e w4 ⟨rfl, rfl⟩)
   |(go_at_call 50; (with_reducible refine (hbal _ hO.below).mono ?_); rintro e w5 ⟨rfl, hb5⟩; replace hO := Own.new2 (hO.grow hb5) 93 #[.int .i64 y1, .int .i64 y2, .int .i64 y3]; have hcl5 := hO.b0.cell; have hcx5 := hO.b1.cell)
   |(go_at_call 51; (with_reducible refine (hpm _ hO.below).mono ?_); rintro e w6 ⟨rfl, hb6⟩; replace hO := hO.grow hb6)
   |(go_at_call 52; (with_reducible refine (hbl _ hO.below).mono ?_); rintro e w7 ⟨rfl, hb7⟩; replace hO := hO.grow hb7; have hcx7 := hO.b1.cell))
  go_ret
  exact ⟨rfl, hO.below⟩
 have f9 : decide (4294967294 < x.last) = false := by simpa using g9
 cases ri with
 | false =>
  obtain rfl : mx = false := Bool.eq_false_iff.2 fun hh => by have := HM.out.1 hh; simp at this
  go_enter Tryz.func19, Tryz.ntmps19
  go_wp2_with (first
   |(go_at_call 46; (with_reducible refine (hru _).mono ?_); rintro e w1 ⟨rfl, hb1⟩; replace hO := hO.grow hb1; have hcl1 := hO.b0.cell; have hcx1 := hO.b1.cell)
   |(go_at_call 47; (with_reducible refine (hsm _).mono ?_); rintro e w2 ⟨rfl, hb2⟩; replace hO := hO.grow hb2; have hcl2 := hO.b0.cell; have hcx2 := hO.b1.cell)
   |(go_at_call 48; (with_reducible refine (hri _ hO.below).mono ?_); rintro e w3 ⟨rfl, hb3⟩; replace hO := hO.grow hb3; have hcl3 := hO.b0.cell; have hcx3 := hO.b1.cell)
   |(go_at_call 49; (with_reducible refine (hrs _ hO.below).mono ?_); rintro e w4 ⟨rfl, rfl⟩)
   |(go_at_call 50; (with_reducible refine (hbal _ hO.below).mono ?_); rintro e w5 ⟨rfl, hb5⟩; replace hO := Own.new2 (hO.grow hb5) 93 #[.int .i64 y1, .int .i64 y2, .int .i64 y3]; have hcl5 := hO.b0.cell; have hcx5 := hO.b1.cell)
   |(go_at_call 51; (with_reducible refine (hpm _ hO.below).mono ?_); rintro e w6 ⟨rfl, hb6⟩; replace hO := hO.grow hb6)
   |(go_at_call 52; (with_reducible refine (hbl _ hO.below).mono ?_); rintro e w7 ⟨rfl, hb7⟩; replace hO := hO.grow hb7; have hcx7 := hO.b1.cell))
  go_ret
  exact ⟨rfl, hO.below⟩
 | true =>
 by_cases g11 : x.past < 0
 ·
  have f11 : decide (x.past < 0) = true := by simpa using g11
  obtain rfl : mx = false := Bool.eq_false_iff.2 fun hh => by have := HM.out.1 hh; omega
  go_enter Tryz.func19, Tryz.ntmps19
  go_wp2_with (first
   |(go_at_call 46; (with_reducible refine (hru _).mono ?_); rintro e w1 ⟨rfl, hb1⟩; replace hO := hO.grow hb1; have hcl1 := hO.b0.cell; have hcx1 := hO.b1.cell)
   |(go_at_call 47; (with_reducible refine (hsm _).mono ?_); rintro e w2 ⟨rfl, hb2⟩; replace hO := hO.grow hb2; have hcl2 := hO.b0.cell; have hcx2 := hO.b1.cell)
   |(go_at_call 48; (with_reducible refine (hri _ hO.below).mono ?_); rintro e w3 ⟨rfl, hb3⟩; replace hO := hO.grow hb3; have hcl3 := hO.b0.cell; have hcx3 := hO.b1.cell)
   |(go_at_call 49; (with_reducible refine (hrs _ hO.below).mono ?_); rintro e w4 ⟨rfl, rfl⟩)
   |(go_at_call 50; (with_reducible refine (hbal _ hO.below).mono ?_); rintro e w5 ⟨rfl, hb5⟩; replace hO := Own.new2 (hO.grow hb5) 93 #[.int .i64 y1, .int .i64 y2, .int .i64 y3]; have hcl5 := hO.b0.cell; have hcx5 := hO.b1.cell)
   |(go_at_call 51; (with_reducible refine (hpm _ hO.below).mono ?_); rintro e w6 ⟨rfl, hb6⟩; replace hO := hO.grow hb6)
   |(go_at_call 52; (with_reducible refine (hbl _ hO.below).mono ?_); rintro e w7 ⟨rfl, hb7⟩; replace hO := hO.grow hb7; have hcx7 := hO.b1.cell))
  go_ret
  exact ⟨rfl, hO.below⟩
 have f11 : decide (x.past < 0) = false := by simpa using g11
 by_cases g12 : 1099511627776 < x.past
 ·
  have f12 : decide (1099511627776 < x.past) = true := by simpa using g12
  obtain rfl : mx = false := Bool.eq_false_iff.2 fun hh => by have := HM.out.1 hh; omega
  go_enter Tryz.func19, Tryz.ntmps19
  go_wp2_with (first
   |(go_at_call 46; (with_reducible refine (hru _).mono ?_); rintro e w1 ⟨rfl, hb1⟩; replace hO := hO.grow hb1; have hcl1 := hO.b0.cell; have hcx1 := hO.b1.cell)
   |(go_at_call 47; (with_reducible refine (hsm _).mono ?_); rintro e w2 ⟨rfl, hb2⟩; replace hO := hO.grow hb2; have hcl2 := hO.b0.cell; have hcx2 := hO.b1.cell)
   |(go_at_call 48; (with_reducible refine (hri _ hO.below).mono ?_); rintro e w3 ⟨rfl, hb3⟩; replace hO := hO.grow hb3; have hcl3 := hO.b0.cell; have hcx3 := hO.b1.cell)
   |(go_at_call 49; (with_reducible refine (hrs _ hO.below).mono ?_); rintro e w4 ⟨rfl, rfl⟩)
   |(go_at_call 50; (with_reducible refine (hbal _ hO.below).mono ?_); rintro e w5 ⟨rfl, hb5⟩; replace hO := Own.new2 (hO.grow hb5) 93 #[.int .i64 y1, .int .i64 y2, .int .i64 y3]; have hcl5 := hO.b0.cell; have hcx5 := hO.b1.cell)
   |(go_at_call 51; (with_reducible refine (hpm _ hO.below).mono ?_); rintro e w6 ⟨rfl, hb6⟩; replace hO := hO.grow hb6)
   |(go_at_call 52; (with_reducible refine (hbl _ hO.below).mono ?_); rintro e w7 ⟨rfl, hb7⟩; replace hO := hO.grow hb7; have hcx7 := hO.b1.cell))
  go_ret
  exact ⟨rfl, hO.below⟩
 have f12 : decide (1099511627776 < x.past) = false := by simpa using g12
 cases rs with
 | false =>
  obtain rfl : mx = false := Bool.eq_false_iff.2 fun hh => by have := HM.out.1 hh; simp at this
  go_enter Tryz.func19, Tryz.ntmps19
  go_wp2_with (first
   |(go_at_call 46; (with_reducible refine (hru _).mono ?_); rintro e w1 ⟨rfl, hb1⟩; replace hO := hO.grow hb1; have hcl1 := hO.b0.cell; have hcx1 := hO.b1.cell)
   |(go_at_call 47; (with_reducible refine (hsm _).mono ?_); rintro e w2 ⟨rfl, hb2⟩; replace hO := hO.grow hb2; have hcl2 := hO.b0.cell; have hcx2 := hO.b1.cell)
   |(go_at_call 48; (with_reducible refine (hri _ hO.below).mono ?_); rintro e w3 ⟨rfl, hb3⟩; replace hO := hO.grow hb3; have hcl3 := hO.b0.cell; have hcx3 := hO.b1.cell)
   |(go_at_call 49; (with_reducible refine (hrs _ hO.below).mono ?_); rintro e w4 ⟨rfl, rfl⟩)
   |(go_at_call 50; (with_reducible refine (hbal _ hO.below).mono ?_); rintro e w5 ⟨rfl, hb5⟩; replace hO := Own.new2 (hO.grow hb5) 93 #[.int .i64 y1, .int .i64 y2, .int .i64 y3]; have hcl5 := hO.b0.cell; have hcx5 := hO.b1.cell)
   |(go_at_call 51; (with_reducible refine (hpm _ hO.below).mono ?_); rintro e w6 ⟨rfl, hb6⟩; replace hO := hO.grow hb6)
   |(go_at_call 52; (with_reducible refine (hbl _ hO.below).mono ?_); rintro e w7 ⟨rfl, hb7⟩; replace hO := hO.grow hb7; have hcx7 := hO.b1.cell))
  go_ret
  exact ⟨rfl, hO.below⟩
 | true =>
 cases ib with
 | false =>
  obtain rfl : mx = false := Bool.eq_false_iff.2 fun hh => by have := HM.out.1 hh; simp at this
  go_enter Tryz.func19, Tryz.ntmps19
  go_wp2_with (first
   |(go_at_call 46; (with_reducible refine (hru _).mono ?_); rintro e w1 ⟨rfl, hb1⟩; replace hO := hO.grow hb1; have hcl1 := hO.b0.cell; have hcx1 := hO.b1.cell)
   |(go_at_call 47; (with_reducible refine (hsm _).mono ?_); rintro e w2 ⟨rfl, hb2⟩; replace hO := hO.grow hb2; have hcl2 := hO.b0.cell; have hcx2 := hO.b1.cell)
   |(go_at_call 48; (with_reducible refine (hri _ hO.below).mono ?_); rintro e w3 ⟨rfl, hb3⟩; replace hO := hO.grow hb3; have hcl3 := hO.b0.cell; have hcx3 := hO.b1.cell)
   |(go_at_call 49; (with_reducible refine (hrs _ hO.below).mono ?_); rintro e w4 ⟨rfl, rfl⟩)
   |(go_at_call 50; (with_reducible refine (hbal _ hO.below).mono ?_); rintro e w5 ⟨rfl, hb5⟩; replace hO := Own.new2 (hO.grow hb5) 93 #[.int .i64 y1, .int .i64 y2, .int .i64 y3]; have hcl5 := hO.b0.cell; have hcx5 := hO.b1.cell)
   |(go_at_call 51; (with_reducible refine (hpm _ hO.below).mono ?_); rintro e w6 ⟨rfl, hb6⟩; replace hO := hO.grow hb6)
   |(go_at_call 52; (with_reducible refine (hbl _ hO.below).mono ?_); rintro e w7 ⟨rfl, hb7⟩; replace hO := hO.grow hb7; have hcx7 := hO.b1.cell))
  go_ret
  exact ⟨rfl, hO.below⟩
 | true =>
 by_cases g15 : x.at_ < 0
 ·
  have f15 : decide (x.at_ < 0) = true := by simpa using g15
  obtain rfl : mx = false := Bool.eq_false_iff.2 fun hh => by have := HM.out.1 hh; omega
  go_enter Tryz.func19, Tryz.ntmps19
  go_wp2_with (first
   |(go_at_call 46; (with_reducible refine (hru _).mono ?_); rintro e w1 ⟨rfl, hb1⟩; replace hO := hO.grow hb1; have hcl1 := hO.b0.cell; have hcx1 := hO.b1.cell)
   |(go_at_call 47; (with_reducible refine (hsm _).mono ?_); rintro e w2 ⟨rfl, hb2⟩; replace hO := hO.grow hb2; have hcl2 := hO.b0.cell; have hcx2 := hO.b1.cell)
   |(go_at_call 48; (with_reducible refine (hri _ hO.below).mono ?_); rintro e w3 ⟨rfl, hb3⟩; replace hO := hO.grow hb3; have hcl3 := hO.b0.cell; have hcx3 := hO.b1.cell)
   |(go_at_call 49; (with_reducible refine (hrs _ hO.below).mono ?_); rintro e w4 ⟨rfl, rfl⟩)
   |(go_at_call 50; (with_reducible refine (hbal _ hO.below).mono ?_); rintro e w5 ⟨rfl, hb5⟩; replace hO := Own.new2 (hO.grow hb5) 93 #[.int .i64 y1, .int .i64 y2, .int .i64 y3]; have hcl5 := hO.b0.cell; have hcx5 := hO.b1.cell)
   |(go_at_call 51; (with_reducible refine (hpm _ hO.below).mono ?_); rintro e w6 ⟨rfl, hb6⟩; replace hO := hO.grow hb6)
   |(go_at_call 52; (with_reducible refine (hbl _ hO.below).mono ?_); rintro e w7 ⟨rfl, hb7⟩; replace hO := hO.grow hb7; have hcx7 := hO.b1.cell))
  go_ret
  exact ⟨rfl, hO.below⟩
 have f15 : decide (x.at_ < 0) = false := by simpa using g15
 by_cases g16 : 268435456 < x.at_
 ·
  have f16 : decide (268435456 < x.at_) = true := by simpa using g16
  obtain rfl : mx = false := Bool.eq_false_iff.2 fun hh => by have := HM.out.1 hh; omega
  go_enter Tryz.func19, Tryz.ntmps19
  go_wp2_with (first
   |(go_at_call 46; (with_reducible refine (hru _).mono ?_); rintro e w1 ⟨rfl, hb1⟩; replace hO := hO.grow hb1; have hcl1 := hO.b0.cell; have hcx1 := hO.b1.cell)
   |(go_at_call 47; (with_reducible refine (hsm _).mono ?_); rintro e w2 ⟨rfl, hb2⟩; replace hO := hO.grow hb2; have hcl2 := hO.b0.cell; have hcx2 := hO.b1.cell)
   |(go_at_call 48; (with_reducible refine (hri _ hO.below).mono ?_); rintro e w3 ⟨rfl, hb3⟩; replace hO := hO.grow hb3; have hcl3 := hO.b0.cell; have hcx3 := hO.b1.cell)
   |(go_at_call 49; (with_reducible refine (hrs _ hO.below).mono ?_); rintro e w4 ⟨rfl, rfl⟩)
   |(go_at_call 50; (with_reducible refine (hbal _ hO.below).mono ?_); rintro e w5 ⟨rfl, hb5⟩; replace hO := Own.new2 (hO.grow hb5) 93 #[.int .i64 y1, .int .i64 y2, .int .i64 y3]; have hcl5 := hO.b0.cell; have hcx5 := hO.b1.cell)
   |(go_at_call 51; (with_reducible refine (hpm _ hO.below).mono ?_); rintro e w6 ⟨rfl, hb6⟩; replace hO := hO.grow hb6)
   |(go_at_call 52; (with_reducible refine (hbl _ hO.below).mono ?_); rintro e w7 ⟨rfl, hb7⟩; replace hO := hO.grow hb7; have hcx7 := hO.b1.cell))
  go_ret
  exact ⟨rfl, hO.below⟩
 have f16 : decide (268435456 < x.at_) = false := by simpa using g16
 obtain ⟨hd, hhd⟩ : ∃ b, b = x.held := ⟨_, rfl⟩
 rw [← hhd] at t46
 have HD := Lib.hid hhd
 clear hhd
 cases hd with
 | true =>
  have hmx : mx = pm := by
   rw [Bool.eq_iff_iff, HM.out, ← HD.out]
   simp
   have := G5.out
   have := G6.out
   omega
  have HX := Lib.hid hmx
  clear hmx
  go_enter Tryz.func19, Tryz.ntmps19
  go_wp2_with (first
   |(go_at_call 46; (with_reducible refine (hru _).mono ?_); rintro e w1 ⟨rfl, hb1⟩; replace hO := hO.grow hb1; have hcl1 := hO.b0.cell; have hcx1 := hO.b1.cell)
   |(go_at_call 47; (with_reducible refine (hsm _).mono ?_); rintro e w2 ⟨rfl, hb2⟩; replace hO := hO.grow hb2; have hcl2 := hO.b0.cell; have hcx2 := hO.b1.cell)
   |(go_at_call 48; (with_reducible refine (hri _ hO.below).mono ?_); rintro e w3 ⟨rfl, hb3⟩; replace hO := hO.grow hb3; have hcl3 := hO.b0.cell; have hcx3 := hO.b1.cell)
   |(go_at_call 49; (with_reducible refine (hrs _ hO.below).mono ?_); rintro e w4 ⟨rfl, rfl⟩)
   |(go_at_call 50; (with_reducible refine (hbal _ hO.below).mono ?_); rintro e w5 ⟨rfl, hb5⟩; replace hO := Own.new2 (hO.grow hb5) 93 #[.int .i64 y1, .int .i64 y2, .int .i64 y3]; have hcl5 := hO.b0.cell; have hcx5 := hO.b1.cell)
   |(go_at_call 51; (with_reducible refine (hpm _ hO.below).mono ?_); rintro e w6 ⟨rfl, hb6⟩; replace hO := hO.grow hb6)
   |(go_at_call 52; (with_reducible refine (hbl _ hO.below).mono ?_); rintro e w7 ⟨rfl, hb7⟩; replace hO := hO.grow hb7; have hcx7 := hO.b1.cell))
  go_ret
  exact ⟨by simp [HX.out], hO.below⟩
 | false =>
  cases bl with
  | false =>
   obtain rfl : mx = false := Bool.eq_false_iff.2 fun hh => by have := (HM.out.1 hh).1.2.2.2.2.2.2 HD.out.symm; simp at this
   go_enter Tryz.func19, Tryz.ntmps19
   go_wp2_with (first
    |(go_at_call 46; (with_reducible refine (hru _).mono ?_); rintro e w1 ⟨rfl, hb1⟩; replace hO := hO.grow hb1; have hcl1 := hO.b0.cell; have hcx1 := hO.b1.cell)
    |(go_at_call 47; (with_reducible refine (hsm _).mono ?_); rintro e w2 ⟨rfl, hb2⟩; replace hO := hO.grow hb2; have hcl2 := hO.b0.cell; have hcx2 := hO.b1.cell)
    |(go_at_call 48; (with_reducible refine (hri _ hO.below).mono ?_); rintro e w3 ⟨rfl, hb3⟩; replace hO := hO.grow hb3; have hcl3 := hO.b0.cell; have hcx3 := hO.b1.cell)
    |(go_at_call 49; (with_reducible refine (hrs _ hO.below).mono ?_); rintro e w4 ⟨rfl, rfl⟩)
    |(go_at_call 50; (with_reducible refine (hbal _ hO.below).mono ?_); rintro e w5 ⟨rfl, hb5⟩; replace hO := Own.new2 (hO.grow hb5) 93 #[.int .i64 y1, .int .i64 y2, .int .i64 y3]; have hcl5 := hO.b0.cell; have hcx5 := hO.b1.cell)
    |(go_at_call 51; (with_reducible refine (hpm _ hO.below).mono ?_); rintro e w6 ⟨rfl, hb6⟩; replace hO := hO.grow hb6)
    |(go_at_call 52; (with_reducible refine (hbl _ hO.below).mono ?_); rintro e w7 ⟨rfl, hb7⟩; replace hO := hO.grow hb7; have hcx7 := hO.b1.cell))
   go_ret
   exact ⟨rfl, hO.below⟩
  | true =>
   by_cases ga : x.at_ = 0
   ·
    have fa : (x.at_ == 0) = true := by simpa using ga
    have hmx : mx = true := by
     rw [HM.out, ← HD.out]
     simp
     have := G5.out
     have := G6.out
     omega
    subst hmx
    clear ga
    go_enter Tryz.func19, Tryz.ntmps19
    go_wp2_with (first
     |(go_at_call 46; (with_reducible refine (hru _).mono ?_); rintro e w1 ⟨rfl, hb1⟩; replace hO := hO.grow hb1; have hcl1 := hO.b0.cell; have hcx1 := hO.b1.cell)
     |(go_at_call 47; (with_reducible refine (hsm _).mono ?_); rintro e w2 ⟨rfl, hb2⟩; replace hO := hO.grow hb2; have hcl2 := hO.b0.cell; have hcx2 := hO.b1.cell)
     |(go_at_call 48; (with_reducible refine (hri _ hO.below).mono ?_); rintro e w3 ⟨rfl, hb3⟩; replace hO := hO.grow hb3; have hcl3 := hO.b0.cell; have hcx3 := hO.b1.cell)
     |(go_at_call 49; (with_reducible refine (hrs _ hO.below).mono ?_); rintro e w4 ⟨rfl, rfl⟩)
     |(go_at_call 50; (with_reducible refine (hbal _ hO.below).mono ?_); rintro e w5 ⟨rfl, hb5⟩; replace hO := Own.new2 (hO.grow hb5) 93 #[.int .i64 y1, .int .i64 y2, .int .i64 y3]; have hcl5 := hO.b0.cell; have hcx5 := hO.b1.cell)
     |(go_at_call 51; (with_reducible refine (hpm _ hO.below).mono ?_); rintro e w6 ⟨rfl, hb6⟩; replace hO := hO.grow hb6)
     |(go_at_call 52; (with_reducible refine (hbl _ hO.below).mono ?_); rintro e w7 ⟨rfl, hb7⟩; replace hO := hO.grow hb7; have hcx7 := hO.b1.cell))
    go_ret
    exact ⟨rfl, hO.below⟩
   ·
    have fa : (x.at_ == 0) = false := by simpa using ga
    obtain rfl : mx = false := Bool.eq_false_iff.2 fun hh => by have := (HM.out.1 hh).1.2.2.2.2.2.2 HD.out.symm; omega
    clear ga
    go_enter Tryz.func19, Tryz.ntmps19
    go_wp2_with (first
     |(go_at_call 46; (with_reducible refine (hru _).mono ?_); rintro e w1 ⟨rfl, hb1⟩; replace hO := hO.grow hb1; have hcl1 := hO.b0.cell; have hcx1 := hO.b1.cell)
     |(go_at_call 47; (with_reducible refine (hsm _).mono ?_); rintro e w2 ⟨rfl, hb2⟩; replace hO := hO.grow hb2; have hcl2 := hO.b0.cell; have hcx2 := hO.b1.cell)
     |(go_at_call 48; (with_reducible refine (hri _ hO.below).mono ?_); rintro e w3 ⟨rfl, hb3⟩; replace hO := hO.grow hb3; have hcl3 := hO.b0.cell; have hcx3 := hO.b1.cell)
     |(go_at_call 49; (with_reducible refine (hrs _ hO.below).mono ?_); rintro e w4 ⟨rfl, rfl⟩)
     |(go_at_call 50; (with_reducible refine (hbal _ hO.below).mono ?_); rintro e w5 ⟨rfl, hb5⟩; replace hO := Own.new2 (hO.grow hb5) 93 #[.int .i64 y1, .int .i64 y2, .int .i64 y3]; have hcl5 := hO.b0.cell; have hcx5 := hO.b1.cell)
     |(go_at_call 51; (with_reducible refine (hpm _ hO.below).mono ?_); rintro e w6 ⟨rfl, hb6⟩; replace hO := hO.grow hb6)
     |(go_at_call 52; (with_reducible refine (hbl _ hO.below).mono ?_); rintro e w7 ⟨rfl, hb7⟩; replace hO := hO.grow hb7; have hcx7 := hO.b1.cell))
    go_ret
    exact ⟨rfl, hO.below⟩
end Go.Proofs.YtkaggddmhjifjaaGreatDoor
set_option linter.unusedSimpArgs false
set_option linter.unusedVariables false
namespace Go.Proofs.YtkaggddmhjifjaaGreatDoor
open Go.RowKit Go.Shelf
set_option maxRecDepth 8000 in
set_option maxHeartbeats 4000000 in
theorem frontX_m {w : World} {t : Tp} {m : TpM} (h : TpIs w t m) (x : Tr) (xm : TrM) (hx : TrIs w x xm) : Calls Tryz.prog 6 #[.agg m.cells, .agg (trC x xm)] w fun e w' => e = .returned (frontV (frontX t x)) ∧ Below w.heap.size w w' := by
 have hO : Own w _ [_, _] := Own.start2 w 27 44 m.cells (trC x xm)
 have hcl := hO.b0.cell
 have hcx := hO.b1.cell
 have hma := fun W (hW : Below w.heap.size w W) => mayX_m (h.below hW) x xm (hx.below hW)
 have hfr := fun W (hW : Below w.heap.size w W) => front_m (h.below hW) x.ma xm.v (hx.ma.below hW) x.pos
 have hr : frontX t x = if mayX t x = true ∧ x.held = true then frontM t x.ma x.pos else none := rfl
 generalize frontX t x = fx at *
 generalize mayX t x = mx at *
 generalize frontM t x.ma x.pos = fm at *
 have t0 := tr0 x xm
 have t1 := tr1 x xm
 have t2 := tr2 x xm
 have t3 := tr3 x xm
 have t4 := tr4 x xm
 have t5 := tr5 x xm
 have t6 := tr6 x xm
 have t7 := tr7 x xm
 have t8 := tr8 x xm
 have t9 := tr9 x xm
 have t10 := tr10 x xm
 have t11 := tr11 x xm
 have t12 := tr12 x xm
 have t28 := tr28 x xm
 have t29 := tr29 x xm
 have t30 := tr30 x xm
 have t31 := tr31 x xm
 have t32 := tr32 x xm
 have t33 := tr33 x xm
 have t34 := tr34 x xm
 have t35 := tr35 x xm
 have t36 := tr36 x xm
 have t37 := tr37 x xm
 have t38 := tr38 x xm
 have t39 := tr39 x xm
 have t40 := tr40 x xm
 have t41 := tr41 x xm
 have t42 := tr42 x xm
 have t43 := tr43 x xm
 have t44 := tr44 x xm
 have t45 := tr45 x xm
 have t46 := tr46 x xm
 have t47 := tr47 x xm
 unfold maC at hfr
 unfold TpM.cells at *
 obtain ⟨hd, hhd⟩ : ∃ b, b = x.held := ⟨_, rfl⟩
 rw [← hhd] at t46 hr
 have HD := Lib.hid hhd
 clear hhd
 cases mx with
 | false =>
  obtain rfl : fx = none := hr
  unfold frontV
  go_enter Tryz.func6, Tryz.ntmps6
  go_wp2_with (first
   |((with_reducible refine own_loadg1 hO ?_ _ rfl rfl _ Tryz.underlying44 rfl (trC_info x xm) ?_); (· first | rfl | (simp [Region.wanted, yielded]; done)))
   |(go_at_call 19; (with_reducible refine (hma _ hO.below).mono ?_); rintro e w1 ⟨rfl, hb1⟩; replace hO := hO.grow hb1; have hcl1 := hO.b0.cell; have hcx1 := hO.b1.cell))
  go_ret2
  exact ⟨rfl, hO.below⟩
 | true =>
  cases hd with
  | false =>
   obtain rfl : fx = none := by rw [hr]; simp
   clear hr
   unfold frontV
   go_enter Tryz.func6, Tryz.ntmps6
   go_wp2_with (first
    |((with_reducible refine own_loadg1 hO ?_ _ rfl rfl _ Tryz.underlying44 rfl (trC_info x xm) ?_); (· first | rfl | (simp [Region.wanted, yielded]; done)))
    |(go_at_call 19; (with_reducible refine (hma _ hO.below).mono ?_); rintro e w1 ⟨rfl, hb1⟩; replace hO := hO.grow hb1; have hcl1 := hO.b0.cell; have hcx1 := hO.b1.cell))
   go_ret2
   exact ⟨rfl, hO.below⟩
  | true =>
   obtain rfl : fx = fm := by rw [hr]; simp
   clear hr
   cases fx with
   | none =>
    unfold frontV at *
    go_enter Tryz.func6, Tryz.ntmps6
    go_wp2_with (first
     |((with_reducible refine own_loadg1 hO ?_ _ rfl rfl _ Tryz.underlying44 rfl (trC_info x xm) ?_); (· first | rfl | (simp [Region.wanted, yielded]; done)))
     |(go_at_call 19; (with_reducible refine (hma _ hO.below).mono ?_); rintro e w1 ⟨rfl, hb1⟩; replace hO := hO.grow hb1; have hcl1 := hO.b0.cell; have hcx1 := hO.b1.cell)
     |(go_at_call 22; (with_reducible refine (hfr _ hO.below).mono ?_); rintro e w2 ⟨rfl, hb2⟩; replace hO := hO.grow hb2))
    go_ret2
    exact ⟨rfl, hO.below⟩
   | some n =>
    unfold frontV at *
    go_enter Tryz.func6, Tryz.ntmps6
    go_wp2_with (first
     |((with_reducible refine own_loadg1 hO ?_ _ rfl rfl _ Tryz.underlying44 rfl (trC_info x xm) ?_); (· first | rfl | (simp [Region.wanted, yielded]; done)))
     |(go_at_call 19; (with_reducible refine (hma _ hO.below).mono ?_); rintro e w1 ⟨rfl, hb1⟩; replace hO := hO.grow hb1; have hcl1 := hO.b0.cell; have hcx1 := hO.b1.cell)
     |(go_at_call 22; (with_reducible refine (hfr _ hO.below).mono ?_); rintro e w2 ⟨rfl, hb2⟩; replace hO := hO.grow hb2))
    go_ret2
    exact ⟨rfl, hO.below⟩
end Go.Proofs.YtkaggddmhjifjaaGreatDoor
