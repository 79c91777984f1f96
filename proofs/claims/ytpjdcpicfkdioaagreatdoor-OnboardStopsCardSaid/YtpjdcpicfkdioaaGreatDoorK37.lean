/- Texts in one: Few. -/
import Derived.Test.YtpjdcpicfkdioaaGreatDoorK36
import Derived.Test.YtpjdcpicfkdioaaGreatDoorK19
set_option linter.unusedSimpArgs false
set_option linter.unusedVariables false
/- The law's few: is what was handed in not too great? -/
namespace Go.Proofs.YtpjdcpicfkdioaaGreatDoor
open Go.RowKit Go.Shelf

set_option maxRecDepth 8000 in
set_option maxHeartbeats 4000000 in
theorem light17_k {w : World} {t : Tp} {m : TpM} (h : TpL w t m) (hc : m.n4 ≤ 9223372036854775807) (ma : Ma) (v : MaM) : Calls Tryz.prog 14 #[.agg m.cells, .agg (maC ma v)] w fun e w' => e = .returned (.bool (lightT t m && decide (v.n1 ≤ 100) && decide (v.n2 ≤ 100))) ∧ Below w.heap.size w w' := by
  have hO : Own w _ [_, _] := Own.start2 w 27 42 m.cells (maC ma v)
  have hcl := hO.b0.cell
  have hlt := fun W (hW : Below w.heap.size w W) => light_k (h.below hW) hc
  generalize lightT t m = lt at *
  clear h hc
  unfold maC TpM.cells at *
  cases lt with
  | false =>
    go_enter Tryz.func14, Tryz.ntmps14
    go_wp2_with (first
      | (go_at_call 40; (with_reducible refine (hlt _ hO.below).mono ?_); rintro e w1 ⟨rfl, hb1⟩; replace hO := hO.grow hb1; have hcm := hO.b1.cell))
    go_ret
    exact ⟨rfl, hO.below⟩
  | true =>
    by_cases h1 : v.n1 ≤ 100
    · have f1 : decide ((v.n1 : Int) ≤ 100) = true := by simp; omega
      by_cases h2 : v.n2 ≤ 100
      · have f2 : decide ((v.n2 : Int) ≤ 100) = true := by simp; omega
        rw [show (true && decide (v.n1 ≤ 100) && decide (v.n2 ≤ 100)) = true by simp [h1, h2]]
        clear h1 h2
        go_enter Tryz.func14, Tryz.ntmps14
        go_wp2_with (first
          | (go_at_call 40; (with_reducible refine (hlt _ hO.below).mono ?_); rintro e w1 ⟨rfl, hb1⟩; replace hO := hO.grow hb1; have hcm := hO.b1.cell))
        go_ret
        exact ⟨rfl, hO.below⟩
      · have f2 : decide ((v.n2 : Int) ≤ 100) = false := by simp; omega
        rw [show (true && decide (v.n1 ≤ 100) && decide (v.n2 ≤ 100)) = false by simp [h1, h2]]
        clear h1 h2
        go_enter Tryz.func14, Tryz.ntmps14
        go_wp2_with (first
          | (go_at_call 40; (with_reducible refine (hlt _ hO.below).mono ?_); rintro e w1 ⟨rfl, hb1⟩; replace hO := hO.grow hb1; have hcm := hO.b1.cell))
        go_ret
        exact ⟨rfl, hO.below⟩
    · have f1 : decide ((v.n1 : Int) ≤ 100) = false := by simp; omega
      rw [show (true && decide (v.n1 ≤ 100) && decide (v.n2 ≤ 100)) = false by simp [h1]]
      clear h1
      go_enter Tryz.func14, Tryz.ntmps14
      go_wp2_with (first
        | (go_at_call 40; (with_reducible refine (hlt _ hO.below).mono ?_); rintro e w1 ⟨rfl, hb1⟩; replace hO := hO.grow hb1; have hcm := hO.b1.cell))
      go_ret
      exact ⟨rfl, hO.below⟩
set_option maxRecDepth 8000 in
set_option maxHeartbeats 4000000 in
theorem few_k {w : World} {t : Tp} {m : TpM} (h : TpL w t m) (hc : m.n4 ≤ 9223372036854775807) (x : Tr) (xm : TrM) : Calls Tryz.prog 5 #[.agg m.cells, .agg (trC x xm), .agg #[.int .i64 0, .int .i64 0, .slice none 0 0]] w fun e w' => e = .returned (.bool (lightT t m && decide (xm.v.n1 ≤ 100) && decide (xm.v.n2 ≤ 100) && decide (xm.n3 ≤ 40))) ∧ Below w.heap.size w w' := by
  have hO : Own w _ [_, _, _] := Own.start3 w 27 44 49 m.cells (trC x xm) #[.int .i64 0, .int .i64 0, .slice none 0 0]
  have hcl := hO.b0.cell
  have hcx := hO.b1.cell
  have hcc := hO.b2.cell
  have hlt := fun W (hW : Below w.heap.size w W) => light17_k (h.below hW) hc x.ma xm.v
  generalize (lightT t m && decide (xm.v.n1 ≤ 100) && decide (xm.v.n2 ≤ 100)) = lt at *
  clear h hc
  have t0 := tr0 x xm
  have t1 := tr1 x xm
  have t2 := tr2 x xm
  have t3 := tr3 x xm
  have t4 := tr4 x xm
  have t5 := tr5 x xm
  have t6 := tr6 x xm
  have t7 := tr7 x xm
  have t8 := tr8 x xm
  have t9 := tr9 x xm
  have t10 := tr10 x xm
  have t11 := tr11 x xm
  have t12 := tr12 x xm
  have t28 := tr28 x xm
  have t29 := tr29 x xm
  have t30 := tr30 x xm
  have t31 := tr31 x xm
  have t32 := tr32 x xm
  have t33 := tr33 x xm
  have t34 := tr34 x xm
  have t35 := tr35 x xm
  have t36 := tr36 x xm
  have t37 := tr37 x xm
  have t38 := tr38 x xm
  have t39 := tr39 x xm
  have t40 := tr40 x xm
  have t41 := tr41 x xm
  have t42 := tr42 x xm
  have t43 := tr43 x xm
  have t44 := tr44 x xm
  have t45 := tr45 x xm
  have t46 := tr46 x xm
  have t47 := tr47 x xm
  unfold maC at hlt
  unfold TpM.cells at *
  cases lt with
  | false =>
    go_enter Tryz.func5, Tryz.ntmps5
    go_wp2_with (first
      | (go_at_call 14; (with_reducible refine (hlt _ hO.below).mono ?_); rintro e w1 ⟨rfl, hb1⟩; replace hO := hO.grow hb1; have hcm := hO.b1.cell; have hcb := hO.b2.cell))
    go_ret
    exact ⟨rfl, hO.below⟩
  | true =>
    by_cases h1 : xm.n3 ≤ 40
    · have f1 : decide ((xm.n3 : Int) ≤ 40) = true := by simp; omega
      rw [show (true && decide (xm.n3 ≤ 40)) = true by simp [h1]]
      clear h1
      go_enter Tryz.func5, Tryz.ntmps5
      go_wp2_with (first
        | (go_at_call 14; (with_reducible refine (hlt _ hO.below).mono ?_); rintro e w1 ⟨rfl, hb1⟩; replace hO := hO.grow hb1; have hcm := hO.b1.cell; have hcb := hO.b2.cell))
      go_ret
      exact ⟨rfl, hO.below⟩
    · have f1 : decide ((xm.n3 : Int) ≤ 40) = false := by simp; omega
      rw [show (true && decide (xm.n3 ≤ 40)) = false by simp [h1]]
      clear h1
      go_enter Tryz.func5, Tryz.ntmps5
      go_wp2_with (first
        | (go_at_call 14; (with_reducible refine (hlt _ hO.below).mono ?_); rintro e w1 ⟨rfl, hb1⟩; replace hO := hO.grow hb1; have hcm := hO.b1.cell; have hcb := hO.b2.cell))
      go_ret
      exact ⟨rfl, hO.below⟩
end Go.Proofs.YtpjdcpicfkdioaaGreatDoor
