/- OnboardStops: with a stop, without an authority, or beyond its time, a train has nothing to go over, and does not move. -/
import Derived.Test.YtpjdcpicfkdioaaGreatDoorK36
import Derived.Test.YtpjdcpicfkdioaaGreatDoorK38
import Derived.Test.YtpjdcpicfkdioaaGreatDoorK39
import Derived.Test.YtpjdcpicfkdioaaGreatDoorK24
import Derived.Test.YtpjdcpicfkdioaaGreatDoorTie
import Derived.Test.YtpjdcpicfkdioaaGreatDoorCards
import Derived.LaidMore
import Derived.Stop.Joined
import Derived.SevenTiedAt
set_option linter.unusedSimpArgs false
set_option linter.unusedVariables false
set_option linter.unusedSimpArgs false
set_option linter.unusedVariables false
namespace Go.Proofs.YtpjdcpicfkdioaaGreatDoor
open Go.ChangeShapes Go.WideShapes Go.ChangeAt Go.RowKit Go.Shelf
open Go.ChangeMaps (open_string shut_string)

theorem fewX {a b c d : Bool} (h : (a && b && c && d) = true) : a = true ∧ b = true ∧ c = true ∧ d = true := by
  simp only [Bool.and_eq_true] at h
  exact ⟨h.1.1.1, h.1.1.2, h.1.2, h.2⟩
set_option maxRecDepth 8000 in
set_option maxHeartbeats 8000000 in
theorem onStops_walk (s0 : Tp × TpM) (s1 : Tr × TrM) (n : Int) (hn0 : -9223372036854775808 ≤ n) (hn1 : n ≤ 9223372036854775807) (now : Int) (hw0 : -9223372036854775808 ≤ now) (hw1 : now ≤ 9223372036854775807) (w : World)
    (b0 : TpL w s0.1 s0.2 ∧ s0.2.c1 ≤ maxLen ∧ s0.2.c2 ≤ maxLen ∧ s0.2.c3 ≤ maxLen ∧ s0.2.c4 ≤ maxLen) (b1 : TrL w s1.1 s1.2) {laid : List (String × DataW Unit)} (hL : laidMetH Tryz.prog laid w) :
    Calls Tryz.prog 3 #[.agg s0.2.cells, .agg (trC s1.1 s1.2), .int .i64 n, .int .i64 now] w fun e w' => e = .returned (.bool true) ∧ Below w.heap.size w w' := by
  obtain ⟨t, m⟩ := s0
  obtain ⟨x, xm⟩ := s1
  simp only at b0 b1 ⊢
  obtain ⟨hT, _, _, _, hc4⟩ := b0
  have hq4 := hT.q4
  have hc : m.n4 ≤ 9223372036854775807 := by unfold maxLen at hc4; omega
  clear hc4 hq4
  have hO : Own w _ [_, _] := Own.start2 w 27 44 m.cells (trC x xm)
  have hcl := hO.b0.cell
  have hcx := hO.b1.cell
  have hfew := fun W (hW : Below w.heap.size w W) => few_k (hT.below hW) hc x xm
  clear hc
  cases hL : (lightT t m && decide (xm.v.n1 ≤ 100) && decide (xm.v.n2 ≤ 100) && decide (xm.n3 ≤ 40)) with
  | false =>
    rw [hL] at hfew
    clear hL hn0 hn1 hw0 hw1
    unfold TpM.cells at *
    go_enter Tryz.func3, Tryz.ntmps3
    go_wp2_with (first
      | ((with_reducible refine own_loadg0 hO ?_ _ rfl rfl _ Tryz.underlying27 rfl (by kernel_rfl) ?_); (· first | rfl | (simp [Region.wanted, yielded]; done)))
      | ((with_reducible refine own_loadg1 hO ?_ _ rfl rfl _ Tryz.underlying44 rfl (trC_info _ xm) ?_); (· first | rfl | (simp [Region.wanted, yielded]; done)))
      | (go_at_call 4; (with_reducible refine (awake_k _).mono ?_); rintro e w1 ⟨rfl, hb1⟩; replace hO := hO.grow hb1)
      | (go_at_call 5; (with_reducible refine (hfew _ hO.below).mono ?_); rintro e w2 ⟨rfl, hb2⟩; replace hO := hO.grow hb2))
    go_ret
    exact ⟨rfl, hO.below⟩
  | true =>
    rw [hL] at hfew
    obtain ⟨l1, l2, l3, l4⟩ := fewX hL
    simp only [decide_eq_true_eq] at l2 l3 l4
    have hI := hT.is l1
    have hX := b1.is l2 l3 (Nat.le_trans l4 (by decide))
    clear l1 l2 l3 hL hT b1
    have hst := fun W (hW : Below w.heap.size w W) => stepM_k (hI.below hW) x xm (hX.below hW) n now
    have hau := fun W (hW : Below w.heap.size w W) => auth_k (hI.below hW) x xm (hX.below hW) now
    have hre := fun W (hW : Below w.heap.size w W) => reach_m x.ma xm.v (wrap64 (now - x.at_)) W (hX.ma.below hW)
    have hto := fun (A : Option Addr) (c : Nat) W (hr : RowsAt encSp W A (authX t x now)) => total_k A _ c (authX t x now) W hr rfl (Nat.le_trans (auth_length (by rw [hX.ma.e1]; exact hX.ma.l1)) (by decide))
    have hen : x.stops = [] ∨ 0 < xm.n3 := by
      rw [← hX.e3]
      cases x.stops with
      | nil => exact .inl rfl
      | cons a l => exact .inr (by simp)
    have p1 : 0 < xm.n3 → stepE t x n now ≠ 0 ∧ authX t x now = [] := fun h => stops_bind (by intro e; have := hX.e3; rw [e] at this; simp at this; omega)
    have p2 : x.held = false → stepE t x n now ≠ 0 ∧ authX t x now = [] := stops_held
    have p3 : reachP x.ma.sects (wrap64 (now - x.at_)) 0 = 0 → stepE t x n now ≠ 0 ∧ authX t x now = [] := stops_beyond
    have p4 : stepE t x n now = 0 → 1 ≤ n ∧ 0 < (authX t x now).length ∧ n ≤ totalT (authX t x now) := stops_moves
    unfold StepPost at hst
    generalize stepE t x n now = E at *
    generalize authX t x now = au at *
    generalize reachP x.ma.sects (wrap64 (now - x.at_)) 0 = rr at *
    have t0 := tr0 x xm
    have t1 := tr1 x xm
    have t2 := tr2 x xm
    have t3 := tr3 x xm
    have t4 := tr4 x xm
    have t5 := tr5 x xm
    have t6 := tr6 x xm
    have t7 := tr7 x xm
    have t8 := tr8 x xm
    have t9 := tr9 x xm
    have t10 := tr10 x xm
    have t11 := tr11 x xm
    have t12 := tr12 x xm
    have t28 := tr28 x xm
    have t29 := tr29 x xm
    have t30 := tr30 x xm
    have t31 := tr31 x xm
    have t32 := tr32 x xm
    have t33 := tr33 x xm
    have t34 := tr34 x xm
    have t35 := tr35 x xm
    have t36 := tr36 x xm
    have t37 := tr37 x xm
    have t38 := tr38 x xm
    have t39 := tr39 x xm
    have t40 := tr40 x xm
    have t41 := tr41 x xm
    have t42 := tr42 x xm
    have t43 := tr43 x xm
    have t44 := tr44 x xm
    have t45 := tr45 x xm
    have t46 := tr46 x xm
    have t47 := tr47 x xm
    generalize xm.n3 = n3 at *
    by_cases h1 : 0 < n3
    · obtain ⟨hE, rfl⟩ := p1 h1
      have f1 : decide (0 < (n3 : Int)) = true := by simpa using h1
      have e1 : (E != 0) = true := by simpa using hE
      have e2 : (E == 0) = false := by simpa using hE
      have z0 : zeroTr[0]'(by show 0 < 48; decide) = .int .i64 0 := rfl
      clear p1 p2 p3 p4 hto hre hen
      have hs := fun (W : World) => run_store_new (P := Tryz.prog) W 44 #[.int .i64 0, .int .i64 0, .int .i64 0, .int .i64 0, .int .i64 0, .int .i64 0, .int .i64 0, .int .i64 0, .int .i64 0, .int .i64 0, .int .i64 0, .int .i64 0, .int .i64 0, .int .u32 0, .int .u32 0, .int .u32 0, .int .u32 0, .int .i64 0, .int .u32 0, .int .u32 0, .int .u32 0, .int .u32 0, .int .u32 0, .int .u32 0, .bool false, .int .u32 0, .int .u32 0, .int .u32 0, .int .i64 0, .int .i64 0, .int .i64 0, .bool false, .int .i64 0, .bool false, .int .i64 0, .int .i64 0, .bool false, .int .i64 0, .int .i64 0, .bool false, .int .i64 0, .bool false, .slice none 0 0, .slice none 0 0, .int .i64 0, .int .i64 0, .bool false, .slice none 0 0] zeroTr rfl (by kernel_rfl)
      clear hn0 hn1 hw0 hw1
      unfold maC TpM.cells at *
      go_enter Tryz.func3, Tryz.ntmps3
      go_wp2_with (first
        | ((with_reducible refine own_loadg0 hO ?_ _ rfl rfl _ Tryz.underlying27 rfl (by kernel_rfl) ?_); (· first | rfl | (simp [Region.wanted, yielded]; done)))
        | ((with_reducible refine own_loadg1 hO ?_ _ rfl rfl _ Tryz.underlying44 rfl (trC_info _ xm) ?_); (· first | rfl | (simp [Region.wanted, yielded]; done)))
        | (go_at_call 4; (with_reducible refine (awake_k _).mono ?_); rintro e w1 ⟨rfl, hb1⟩; replace hO := hO.grow hb1)
        | (go_at_call 5; (with_reducible refine (hfew _ hO.below).mono ?_); rintro e w2 ⟨rfl, hb2⟩; replace hO := hO.grow hb2)
        | (go_at_call 6; (with_reducible refine (hst _ hO.below).mono ?_); rintro e w3 ⟨cs, rfl, hb3, hz, hy⟩; obtain rfl := hz hE; clear hz hy; replace hO := hO.grow hb3; replace hO := hO.alloc 44 zeroTr w3.heap.size rfl; simp only [List.cons_append, List.nil_append] at hO; have hcl3 := hO.b0.cell; have hcx3 := hO.b1.cell; have hcy3 := hO.b2.cell)
        | (go_at_call 7; (with_reducible refine (hau _ hO.below).mono ?_); rintro e w4 ⟨A4, c4, rfl, hr4, hb4⟩; replace hO := hO.grow hb4; have hcl4 := hO.b0.cell; have hcx4 := hO.b1.cell; have hcy4 := hO.b2.cell)
        )
      go_ret
      exact ⟨rfl, hO.below⟩
    · obtain rfl : n3 = 0 := by omega
      cases hh : x.held with
      | false =>
        obtain ⟨hE, rfl⟩ := p2 hh
        rw [hh] at t46
        have e1 : (E != 0) = true := by simpa using hE
        have e2 : (E == 0) = false := by simpa using hE
        have z0 : zeroTr[0]'(by show 0 < 48; decide) = .int .i64 0 := rfl
        clear p1 p2 p3 p4 hto hre hen hh h1
        have hs := fun (W : World) => run_store_new (P := Tryz.prog) W 44 #[.int .i64 0, .int .i64 0, .int .i64 0, .int .i64 0, .int .i64 0, .int .i64 0, .int .i64 0, .int .i64 0, .int .i64 0, .int .i64 0, .int .i64 0, .int .i64 0, .int .i64 0, .int .u32 0, .int .u32 0, .int .u32 0, .int .u32 0, .int .i64 0, .int .u32 0, .int .u32 0, .int .u32 0, .int .u32 0, .int .u32 0, .int .u32 0, .bool false, .int .u32 0, .int .u32 0, .int .u32 0, .int .i64 0, .int .i64 0, .int .i64 0, .bool false, .int .i64 0, .bool false, .int .i64 0, .int .i64 0, .bool false, .int .i64 0, .int .i64 0, .bool false, .int .i64 0, .bool false, .slice none 0 0, .slice none 0 0, .int .i64 0, .int .i64 0, .bool false, .slice none 0 0] zeroTr rfl (by kernel_rfl)
        clear hn0 hn1 hw0 hw1
        unfold maC TpM.cells at *
        go_enter Tryz.func3, Tryz.ntmps3
        go_wp2_with (first
          | ((with_reducible refine own_loadg0 hO ?_ _ rfl rfl _ Tryz.underlying27 rfl (by kernel_rfl) ?_); (· first | rfl | (simp [Region.wanted, yielded]; done)))
          | ((with_reducible refine own_loadg1 hO ?_ _ rfl rfl _ Tryz.underlying44 rfl (trC_info _ xm) ?_); (· first | rfl | (simp [Region.wanted, yielded]; done)))
          | (go_at_call 4; (with_reducible refine (awake_k _).mono ?_); rintro e w1 ⟨rfl, hb1⟩; replace hO := hO.grow hb1)
          | (go_at_call 5; (with_reducible refine (hfew _ hO.below).mono ?_); rintro e w2 ⟨rfl, hb2⟩; replace hO := hO.grow hb2)
          | (go_at_call 6; (with_reducible refine (hst _ hO.below).mono ?_); rintro e w3 ⟨cs, rfl, hb3, hz, hy⟩; obtain rfl := hz hE; clear hz hy; replace hO := hO.grow hb3; replace hO := hO.alloc 44 zeroTr w3.heap.size rfl; simp only [List.cons_append, List.nil_append] at hO; have hcl3 := hO.b0.cell; have hcx3 := hO.b1.cell; have hcy3 := hO.b2.cell)
          | (go_at_call 7; (with_reducible refine (hau _ hO.below).mono ?_); rintro e w4 ⟨A4, c4, rfl, hr4, hb4⟩; replace hO := hO.grow hb4; have hcl4 := hO.b0.cell; have hcx4 := hO.b1.cell; have hcy4 := hO.b2.cell)
          )
        go_ret
        exact ⟨rfl, hO.below⟩
      | true =>
        by_cases h3 : rr = 0
        · obtain ⟨hE, rfl⟩ := p3 h3
          subst h3
          rw [hh] at t46
          have e1 : (E != 0) = true := by simpa using hE
          have e2 : (E == 0) = false := by simpa using hE
          have z0 : zeroTr[0]'(by show 0 < 48; decide) = .int .i64 0 := rfl
          clear p1 p2 p3 p4 hto hen hh h1
          have hs := fun (W : World) => run_store_new (P := Tryz.prog) W 44 #[.int .i64 0, .int .i64 0, .int .i64 0, .int .i64 0, .int .i64 0, .int .i64 0, .int .i64 0, .int .i64 0, .int .i64 0, .int .i64 0, .int .i64 0, .int .i64 0, .int .i64 0, .int .u32 0, .int .u32 0, .int .u32 0, .int .u32 0, .int .i64 0, .int .u32 0, .int .u32 0, .int .u32 0, .int .u32 0, .int .u32 0, .int .u32 0, .bool false, .int .u32 0, .int .u32 0, .int .u32 0, .int .i64 0, .int .i64 0, .int .i64 0, .bool false, .int .i64 0, .bool false, .int .i64 0, .int .i64 0, .bool false, .int .i64 0, .int .i64 0, .bool false, .int .i64 0, .bool false, .slice none 0 0, .slice none 0 0, .int .i64 0, .int .i64 0, .bool false, .slice none 0 0] zeroTr rfl (by kernel_rfl)
          clear hn0 hn1 hw0 hw1
          unfold maC TpM.cells at *
          go_enter Tryz.func3, Tryz.ntmps3
          go_wp2_with (first
            | ((with_reducible refine own_loadg0 hO ?_ _ rfl rfl _ Tryz.underlying27 rfl (by kernel_rfl) ?_); (· first | rfl | (simp [Region.wanted, yielded]; done)))
            | ((with_reducible refine own_loadg1 hO ?_ _ rfl rfl _ Tryz.underlying44 rfl (trC_info _ xm) ?_); (· first | rfl | (simp [Region.wanted, yielded]; done)))
            | (go_at_call 4; (with_reducible refine (awake_k _).mono ?_); rintro e w1 ⟨rfl, hb1⟩; replace hO := hO.grow hb1)
            | (go_at_call 5; (with_reducible refine (hfew _ hO.below).mono ?_); rintro e w2 ⟨rfl, hb2⟩; replace hO := hO.grow hb2)
            | (go_at_call 6; (with_reducible refine (hst _ hO.below).mono ?_); rintro e w3 ⟨cs, rfl, hb3, hz, hy⟩; obtain rfl := hz hE; clear hz hy; replace hO := hO.grow hb3; replace hO := hO.alloc 44 zeroTr w3.heap.size rfl; simp only [List.cons_append, List.nil_append] at hO; have hcl3 := hO.b0.cell; have hcx3 := hO.b1.cell; have hcy3 := hO.b2.cell)
            | (go_at_call 7; (with_reducible refine (hau _ hO.below).mono ?_); rintro e w4 ⟨A4, c4, rfl, hr4, hb4⟩; replace hO := hO.grow hb4; have hcl4 := hO.b0.cell; have hcx4 := hO.b1.cell; have hcy4 := hO.b2.cell)
            | (go_at_call 8; (with_reducible refine (hre _ hO.below).mono ?_); rintro e w5 ⟨rfl, hb5⟩; replace hO := hO.grow hb5; replace hr4 := hr4.below hb5)
            )
          go_ret
          exact ⟨rfl, hO.below⟩
        · have g1 : (rr == 0) = false := by simpa using h3
          by_cases hE : E = 0
          · obtain ⟨q1, q2, q3⟩ := p4 hE
            subst hE
            rw [hh] at t46
            generalize totalT au = tt at *
            generalize au.length = la at *
            have d1 : decide (1 ≤ n) = true := by simpa using q1
            have d2 : decide (0 < (la : Int)) = true := by simpa using q2
            have d3 : decide (n ≤ tt) = true := by simpa using q3
            clear p1 p2 p3 p4 hen hh h1 h3
            have hs := fun (W : World) (M : TrM) => run_store_new (P := Tryz.prog) W 44 #[.int .i64 0, .int .i64 0, .int .i64 0, .int .i64 0, .int .i64 0, .int .i64 0, .int .i64 0, .int .i64 0, .int .i64 0, .int .i64 0, .int .i64 0, .int .i64 0, .int .i64 0, .int .u32 0, .int .u32 0, .int .u32 0, .int .u32 0, .int .i64 0, .int .u32 0, .int .u32 0, .int .u32 0, .int .u32 0, .int .u32 0, .int .u32 0, .bool false, .int .u32 0, .int .u32 0, .int .u32 0, .int .i64 0, .int .i64 0, .int .i64 0, .bool false, .int .i64 0, .bool false, .int .i64 0, .int .i64 0, .bool false, .int .i64 0, .int .i64 0, .bool false, .int .i64 0, .bool false, .slice none 0 0, .slice none 0 0, .int .i64 0, .int .i64 0, .bool false, .slice none 0 0] (trC (movedR t x n now) M) rfl (trC_ones _ _)
            clear hn0 hn1 hw0 hw1
            unfold maC TpM.cells at *
            go_enter Tryz.func3, Tryz.ntmps3
            go_wp2_with (first
              | ((with_reducible refine own_loadg0 hO ?_ _ rfl rfl _ Tryz.underlying27 rfl (by kernel_rfl) ?_); (· first | rfl | (simp [Region.wanted, yielded]; done)))
              | ((with_reducible refine own_loadg1 hO ?_ _ rfl rfl _ Tryz.underlying44 rfl (trC_info _ xm) ?_); (· first | rfl | (simp [Region.wanted, yielded]; done)))
              | (go_at_call 4; (with_reducible refine (awake_k _).mono ?_); rintro e w1 ⟨rfl, hb1⟩; replace hO := hO.grow hb1)
              | (go_at_call 5; (with_reducible refine (hfew _ hO.below).mono ?_); rintro e w2 ⟨rfl, hb2⟩; replace hO := hO.grow hb2)
              | (go_at_call 6; (with_reducible refine (hst _ hO.below).mono ?_); rintro e w3 ⟨cs, rfl, hb3, hz, hy⟩; obtain ⟨xn, rfl, hY⟩ := hy trivial; clear hz hy; replace hO := hO.grow hb3; replace hO := hO.alloc 44 (trC (movedR t x n now) xn) w3.heap.size rfl; simp only [List.cons_append, List.nil_append] at hO; have hcl3 := hO.b0.cell; have hcx3 := hO.b1.cell; have hcy3 := hO.b2.cell)
              | (go_at_call 7; (with_reducible refine (hau _ hO.below).mono ?_); rintro e w4 ⟨A4, c4, rfl, hr4, hb4⟩; replace hO := hO.grow hb4; have hcl4 := hO.b0.cell; have hcx4 := hO.b1.cell; have hcy4 := hO.b2.cell)
              | (go_at_call 8; (with_reducible refine (hre _ hO.below).mono ?_); rintro e w5 ⟨rfl, hb5⟩; replace hO := hO.grow hb5; replace hr4 := hr4.below hb5)
              | (go_at_call 9; (with_reducible refine (hto _ _ _ hr4).mono ?_); rintro e w6 ⟨rfl, hb6⟩; replace hO := hO.grow hb6)
              )
            go_ret
            exact ⟨rfl, hO.below⟩
          · have L : 0 = 0 := rfl
            rw [hh] at t46
            have e1 : (E != 0) = true := by simpa using hE
            have e2 : (E == 0) = false := by simpa using hE
            have z0 : zeroTr[0]'(by show 0 < 48; decide) = .int .i64 0 := rfl
            clear p1 p2 p3 p4 hto hen hh h1 h3
            have hs := fun (W : World) => run_store_new (P := Tryz.prog) W 44 #[.int .i64 0, .int .i64 0, .int .i64 0, .int .i64 0, .int .i64 0, .int .i64 0, .int .i64 0, .int .i64 0, .int .i64 0, .int .i64 0, .int .i64 0, .int .i64 0, .int .i64 0, .int .u32 0, .int .u32 0, .int .u32 0, .int .u32 0, .int .i64 0, .int .u32 0, .int .u32 0, .int .u32 0, .int .u32 0, .int .u32 0, .int .u32 0, .bool false, .int .u32 0, .int .u32 0, .int .u32 0, .int .i64 0, .int .i64 0, .int .i64 0, .bool false, .int .i64 0, .bool false, .int .i64 0, .int .i64 0, .bool false, .int .i64 0, .int .i64 0, .bool false, .int .i64 0, .bool false, .slice none 0 0, .slice none 0 0, .int .i64 0, .int .i64 0, .bool false, .slice none 0 0] zeroTr rfl (by kernel_rfl)
            clear hn0 hn1 hw0 hw1
            unfold maC TpM.cells at *
            go_enter Tryz.func3, Tryz.ntmps3
            go_wp2_with (first
              | ((with_reducible refine own_loadg0 hO ?_ _ rfl rfl _ Tryz.underlying27 rfl (by kernel_rfl) ?_); (· first | rfl | (simp [Region.wanted, yielded]; done)))
              | ((with_reducible refine own_loadg1 hO ?_ _ rfl rfl _ Tryz.underlying44 rfl (trC_info _ xm) ?_); (· first | rfl | (simp [Region.wanted, yielded]; done)))
              | (go_at_call 4; (with_reducible refine (awake_k _).mono ?_); rintro e w1 ⟨rfl, hb1⟩; replace hO := hO.grow hb1)
              | (go_at_call 5; (with_reducible refine (hfew _ hO.below).mono ?_); rintro e w2 ⟨rfl, hb2⟩; replace hO := hO.grow hb2)
              | (go_at_call 6; (with_reducible refine (hst _ hO.below).mono ?_); rintro e w3 ⟨cs, rfl, hb3, hz, hy⟩; obtain rfl := hz hE; clear hz hy; replace hO := hO.grow hb3; replace hO := hO.alloc 44 zeroTr w3.heap.size rfl; simp only [List.cons_append, List.nil_append] at hO; have hcl3 := hO.b0.cell; have hcx3 := hO.b1.cell; have hcy3 := hO.b2.cell)
              | (go_at_call 7; (with_reducible refine (hau _ hO.below).mono ?_); rintro e w4 ⟨A4, c4, rfl, hr4, hb4⟩; replace hO := hO.grow hb4; have hcl4 := hO.b0.cell; have hcx4 := hO.b1.cell; have hcy4 := hO.b2.cell)
              | (go_at_call 8; (with_reducible refine (hre _ hO.below).mono ?_); rintro e w5 ⟨rfl, hb5⟩; replace hO := hO.grow hb5; replace hr4 := hr4.below hb5)
              )
            go_ret
            exact ⟨rfl, hO.below⟩
def onboardStops_laid : List (String × DataW Unit) := [("lineside/vars.widths", Rows.laid_lineside_vars_widths)]
theorem onboardStops_door (os : Os) (args : Array Value) : laidMetH Tryz.prog onboardStops_laid ((World.doorLaid Tryz.prog 4000 os).forCall (fun _ _ => 0) ⟨#[], args, []⟩).memory :=
  laidMetH_of_parts3 (fuel := 8) (laidMet_of_run' 8 (by kernel_rfl) (by kernel_rfl)) (by kernel_rfl) (by kernel_rfl)
set_option maxHeartbeats 4000000 in
set_option maxRecDepth 100000 in
theorem onboardStops_lifted (os : Os) (started : os.Started) (H : Type) (enc : TypeId × Value → H) :
    ReturnsInHanded {} Tryz.checked os 3 .any (fun w args => (Rows.onboardStopsSpec.pre enc Tryz.prog Tryz.f3 [] false w args ∧ laidMetH Tryz.prog onboardStops_laid w) ∧ sizedMet enc Tryz.prog Tryz.f3 (OpenSpec.ofChange Rows.onboardStopsSpec) false w args)
      (Rows.onboardStopsSpec.post enc Tryz.prog Tryz.f3 false true false false) := by
  refine returnsInHanded_of_change_and (C := Tryz.checked) (X := fun w _ => laidMetH Tryz.prog onboardStops_laid w) (fun _ _ _ hh h => h.of_heap hh) own started (by kernel_rfl) Tryz.func3
    (ChangeSpec.witness_shaped (enc := enc) (C := Tryz.checked) (os := os) (X := fun w _ => laidMetH Tryz.prog onboardStops_laid w) false (World.doorLaid Tryz.prog 4000 os) #[.agg #[.slice none 0 0, .slice none 0 0, .slice none 0 0, .slice none 0 0], .agg #[.int .i64 0, .int .i64 0, .int .i64 0, .int .i64 0, .int .i64 0, .int .i64 0, .int .i64 0, .int .i64 0, .int .i64 0, .int .i64 0, .int .i64 0, .int .i64 0, .int .i64 0, .int .u32 0, .int .u32 0, .int .u32 0, .int .u32 0, .int .i64 0, .int .u32 0, .int .u32 0, .int .u32 0, .int .u32 0, .int .u32 0, .int .u32 0, .bool false, .int .u32 0, .int .u32 0, .int .u32 0, .int .i64 0, .int .i64 0, .int .i64 0, .bool false, .int .i64 0, .bool false, .int .i64 0, .int .i64 0, .bool false, .int .i64 0, .int .i64 0, .bool false, .int .i64 0, .bool false, .slice none 0 0, .slice none 0 0, .int .i64 0, .int .i64 0, .bool false, .slice none 0 0], .int .i64 0, .int .i64 0] 8 rfl (World.shaped_of_RefB (by kernel_rfl) (by kernel_rfl)) (by kernel_rfl) (by kernel_rfl) (by kernel_rfl) (onboardStops_door os _)) ?_
  intro W base args ds gs before hval0 hW _ _ hL _
  have hval : ∀ (j : Nat) t v, Tryz.f3.params[j]? = some t → args[j]? = some v → Value.okWide Tryz.prog W .any base t v := hval0
  have hW' := hW
  obtain ⟨p, q, hA0, hV, rfl, hfz, hnd⟩ := hW
  have hA : DataW.TrodAll enc Tryz.prog W 0 (fun _ => true) true Tryz.f3.params.toList args.toList ds p := hA0
  rw [Tryz.params3] at hA hval
  obtain ⟨v0, vs0, d0, ds0, p0, q0, hargs, rfl, rfl, h0, r0⟩ := trodAll_cons hA
  obtain ⟨v1, vs1, d1, ds1, p1, q1, rfl, rfl, rfl, h1, r1⟩ := trodAll_cons r0
  obtain ⟨v2, vs2, d2, ds2, p2, q2, rfl, rfl, rfl, h2, r2⟩ := trodAll_cons r1
  obtain ⟨v3, vs3, d3, ds3, p3, q3, rfl, rfl, rfl, h3, r3⟩ := trodAll_cons r2
  obtain ⟨rfl, rfl, rfl⟩ := trodAll_nil r3
  obtain rfl : args = #[v0, v1, v2, v3] := by cases args; simp_all
  obtain ⟨rfl, rfl⟩ := trodVars_none hV
  have k0 := h0
  have lt0 : ∀ x ∈ p0, x.block < W.heap.size := by obtain ⟨m, hm⟩ := k0; exact DataW.trod_lt m _ _ _ hm
  have k1 := h1
  have lt1 : ∀ x ∈ p1, x.block < W.heap.size := by obtain ⟨m, hm⟩ := k1; exact DataW.trod_lt m _ _ _ hm
  have k2 := h2
  have lt2 : ∀ x ∈ p2, x.block < W.heap.size := by obtain ⟨m, hm⟩ := k2; exact DataW.trod_lt m _ _ _ hm
  have k3 := h3
  have lt3 : ∀ x ∈ p3, x.block < W.heap.size := by obtain ⟨m, hm⟩ := k3; exact DataW.trod_lt m _ _ _ hm
  obtain ⟨s0, rfl, b0⟩ := open_topo (hval 0 27 v0 rfl rfl) h0
  obtain ⟨s1, rfl, b1⟩ := open_train (hval 1 44 v1 rfl rfl) h1
  obtain ⟨a2, rfl, _, _, w2⟩ := open_int Tryz.underlying3 (hval 2 3 v2 rfl rfl) h2
  obtain ⟨a3, rfl, _, _, w3⟩ := open_int Tryz.underlying3 (hval 3 3 v3 rfl rfl) h3
  clear hA0 hval0
  refine (onStops_walk s0 s1 a2 (bounds_i64 w2).1 (bounds_i64 w2).2 a3 (bounds_i64 w3).1 (bounds_i64 w3).2 W b0 b1 hL).mono fun e W' ⟨he, bel⟩ => ?_
  subst he
  exact ⟨_, rfl, _, _, _, [], _, [], hW', trodAll_mk1 (shut_bool Tryz.underlying4 _), (trodAll_cons_mk (Below.trod laidOut (by kernel_rfl) (of_decide_eq_true (by kernel_rfl)) k0 bel lt0) (trodAll_cons_mk (Below.trod laidOut (by kernel_rfl) (of_decide_eq_true (by kernel_rfl)) k1 bel lt1) (trodAll_cons_mk (Below.trod laidOut (by kernel_rfl) (of_decide_eq_true (by kernel_rfl)) k2 bel lt2) (trodAll_cons_mk (Below.trod laidOut (by kernel_rfl) (of_decide_eq_true (by kernel_rfl)) k3 bel lt3) trodAll_mk0)))), rfl, bel.frame _, fun h => by cases h⟩

theorem and_mk {a b : Bool} (ha : a = true) (hb : b = true) : (a && b) = true := by rw [ha, hb]; rfl
set_option maxRecDepth 100000 in
set_option maxHeartbeats 8000000 in
theorem onboardStops_closed : joinedFacts Tryz.prog 3 Tryz.f3 Rows.onboardStopsSpec Rows.onboardStopsRow = true := by
  unfold joinedFacts
  repeat' (with_reducible refine and_mk ?_ ?_)
  all_goals (as_aux_lemma => kernel_rfl)
theorem onboardStops_over : Rows.OnboardStopsSaid :=
  OpenClaim.holds_of_wide 3 Tryz.f3 rfl rfl rfl rfl rfl rfl rfl ⟨rfl, rfl, rfl, rfl, rfl⟩ rfl rfl rfl rfl rfl (by kernel_rfl) Tryz.func3 onboardStops_closed
    (of_decide_eq_true (by kernel_rfl)) (by unfold Func.isWrapper; rw [if_neg (of_decide_eq_false (by kernel_rfl))]; exact ⟨rfl, rfl⟩)
    (fun os started H enc _ => onboardStops_lifted os started H enc)

/-- THE STATEMENT. -/
theorem onboardStops_holds : Rows.OnboardStopsCardSaid :=
  Claim7.holds_tied_plain_at .later [] [.data] true (true, "1f44dce05b8eaa91d35759e5f6f07922251092211df333303246ce1dc4cde71d") true
    onboardStops_over (fun _ h => by cases h) (by kernel_rfl) (fun _ h => by cases h) onboardStops_row_tie rfl ⟨rfl, rfl⟩ (by kernel_rfl) rfl
    (fun f fn hf hfn => by
      obtain rfl : f = 3 := Option.some.inj ((show Tryz.prog.funcNamed Rows.onboardStopsRow.func = some 3 by kernel_rfl).symm.trans hf) |>.symm
      obtain rfl : fn = Tryz.f3 := (Option.some.inj (Tryz.func3.symm.trans hfn)).symm
      exact ⟨by kernel_rfl, fun j t ht => by
        rw [Tryz.params3] at ht
        have hm : t ∈ [27, 44, 3, 3] := by simpa using Array.mem_of_getElem? ht
        have hall : ([27, 44, 3, 3].all fun u => !Tryz.prog.wantsStandIn u) = true := by kernel_rfl
        exact (show Tryz.prog.wantsStandIn t = false by simpa using List.all_eq_true.1 hall t hm)⟩)
    (by kernel_rfl)
end Go.Proofs.YtpjdcpicfkdioaaGreatDoor
