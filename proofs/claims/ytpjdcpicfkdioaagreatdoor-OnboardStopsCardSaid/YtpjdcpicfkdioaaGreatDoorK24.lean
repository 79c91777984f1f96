/- Texts in one: Auth BoardCopy MapOwn StepW. -/
import Derived.Test.YtpjdcpicfkdioaaGreatDoorK18
import Derived.Test.YtpjdcpicfkdioaaGreatDoorK23
import Derived.Test.YtpjdcpicfkdioaaGreatDoorK20
import Derived.Test.YtpjdcpicfkdioaaGreatDoorK10
import Derived.Maps.OwnSet
import Derived.Carry
import Derived.MapKept
set_option linter.unusedSimpArgs false
set_option linter.unusedVariables false
/- onboard.Authority: what a train may go over. -/
namespace Go.Proofs.YtpjdcpicfkdioaaGreatDoor
open Go.RowKit Go.Shelf

set_option maxRecDepth 8000 in
set_option maxHeartbeats 8000000 in
theorem auth_k {w : World} {t : Tp} {m : TpM} (h : TpIs w t m) (x : Tr) (xm : TrM) (hx : TrIs w x xm) (now : Int) : Calls Tryz.prog 7 #[.agg m.cells, .agg (trC x xm), .int .i64 now] w fun e w' => ∃ A' c', e = .returned (.slice A' (authX t x now).length c') ∧ RowsAt encSp w' A' (authX t x now) ∧ Below w.heap.size w w' := by
  have hO : Own w _ [_, _] := Own.start2 w 27 44 m.cells (trC x xm)
  have hcl := hO.b0.cell
  have hcx := hO.b1.cell
  have hfx := fun W (hW : Below w.heap.size w W) => frontX_m (h.below hW) x xm (hx.below hW)
  have hre := fun W (hW : Below w.heap.size w W) => reach_m x.ma xm.v (now - x.at_) W (hx.ma.below hW)
  have hA : authX t x now = match frontX t x with
    | none => []
    | some n => if x.stops ≠ [] ∨ clockP now = false then [] else if reachP x.ma.sects (now - x.at_) 0 ≤ n then [] else extentT t x.ma n (reachP x.ma.sects (now - x.at_) 0) := rfl
  have hst : x.stops ≠ [] ↔ 0 < xm.n3 := by
    rw [← hx.e3]
    exact ⟨List.length_pos_iff.2, List.length_pos_iff.1⟩
  simp only [hst] at hA
  clear hst
  unfold clockP at hA
  generalize authX t x now = au at *
  have t0 := tr0 x xm
  have t1 := tr1 x xm
  have t2 := tr2 x xm
  have t3 := tr3 x xm
  have t4 := tr4 x xm
  have t5 := tr5 x xm
  have t6 := tr6 x xm
  have t7 := tr7 x xm
  have t8 := tr8 x xm
  have t9 := tr9 x xm
  have t10 := tr10 x xm
  have t11 := tr11 x xm
  have t12 := tr12 x xm
  have t28 := tr28 x xm
  have t29 := tr29 x xm
  have t30 := tr30 x xm
  have t31 := tr31 x xm
  have t32 := tr32 x xm
  have t33 := tr33 x xm
  have t34 := tr34 x xm
  have t35 := tr35 x xm
  have t36 := tr36 x xm
  have t37 := tr37 x xm
  have t38 := tr38 x xm
  have t39 := tr39 x xm
  have t40 := tr40 x xm
  have t41 := tr41 x xm
  have t42 := tr42 x xm
  have t43 := tr43 x xm
  have t44 := tr44 x xm
  have t45 := tr45 x xm
  have t46 := tr46 x xm
  have t47 := tr47 x xm
  cases hfr : frontX t x with
  | none =>
    rw [hfr] at hA hfx
    obtain rfl : au = [] := hA
    clear hfr
    unfold frontV at hfx
    unfold maC at hre
    unfold TpM.cells at *
    go_enter Tryz.func7, Tryz.ntmps7
    go_wp2_with (first
      | ((with_reducible refine own_loadg1 hO ?_ _ rfl rfl _ Tryz.underlying44 rfl (trC_info _ xm) ?_); (· first | rfl | (simp [Region.wanted, yielded]; done)))
      | (go_at_call 12; (with_reducible refine (hfx _ hO.below).mono ?_); rintro e w1 ⟨rfl, hb1⟩; replace hO := hO.grow hb1; have hcl1 := hO.b0.cell; have hcx1 := hO.b1.cell)
      | (go_at_call 8; (with_reducible refine (hre _ hO.below).mono ?_); rintro e w2 ⟨rfl, hb2⟩; replace hO := hO.grow hb2; have hcl2 := hO.b0.cell; have hcx2 := hO.b1.cell))
    go_ret
    exact ⟨none, 0, rfl, RowsAt.nil _ _, hO.below⟩
  | some n =>
    obtain ⟨n0, may1, held1, mayp1⟩ := front_nonneg hfr
    obtain ⟨r0, r1⟩ := reach_last mayp1 (now - x.at_)
    have hgap := (may_ok mayp1).2.2.1
    obtain ⟨_, _, _, _, _, _, _, _, _, _, _, q0, q1⟩ := (mayX_iff t x).1 may1
    have hex := fun W (hW : Below w.heap.size w W) (hle : n < reachP x.ma.sects (now - x.at_) 0) => extent_k (h.below hW) x.ma xm.v (hx.ma.below hW) mayp1 n (reachP x.ma.sects (now - x.at_) 0) n0 (by omega) (by omega)
    rw [hfr] at hA hfx
    simp only at hA
    clear hfr may1 held1 mayp1
    generalize reachP x.ma.sects (now - x.at_) 0 = rr at *
    unfold frontV at hfx
    by_cases h1 : 0 < xm.n3
    · rw [if_pos (.inl h1)] at hA
      subst hA
      have f1 : decide (0 < (xm.n3 : Int)) = true := by simpa using h1
      clear hex
      unfold maC at hre
      unfold TpM.cells at *
      go_enter Tryz.func7, Tryz.ntmps7
      go_wp2_with (first
        | ((with_reducible refine own_loadg1 hO ?_ _ rfl rfl _ Tryz.underlying44 rfl (trC_info _ xm) ?_); (· first | rfl | (simp [Region.wanted, yielded]; done)))
        | (go_at_call 12; (with_reducible refine (hfx _ hO.below).mono ?_); rintro e w1 ⟨rfl, hb1⟩; replace hO := hO.grow hb1; have hcl1 := hO.b0.cell; have hcx1 := hO.b1.cell)
        | (go_at_call 8; (with_reducible refine (hre _ hO.below).mono ?_); rintro e w2 ⟨rfl, hb2⟩; replace hO := hO.grow hb2; have hcl2 := hO.b0.cell; have hcx2 := hO.b1.cell))
      go_ret
      exact ⟨none, 0, rfl, RowsAt.nil _ _, hO.below⟩

    have f1 : decide (0 < (xm.n3 : Int)) = false := by simpa using h1
    by_cases h2 : now < 0
    · rw [if_pos (.inr (by simp; omega))] at hA
      subst hA
      have f2 : decide (now < 0) = true := by simpa using h2
      clear hex
      unfold maC at hre
      unfold TpM.cells at *
      go_enter Tryz.func7, Tryz.ntmps7
      go_wp2_with (first
        | ((with_reducible refine own_loadg1 hO ?_ _ rfl rfl _ Tryz.underlying44 rfl (trC_info _ xm) ?_); (· first | rfl | (simp [Region.wanted, yielded]; done)))
        | (go_at_call 12; (with_reducible refine (hfx _ hO.below).mono ?_); rintro e w1 ⟨rfl, hb1⟩; replace hO := hO.grow hb1; have hcl1 := hO.b0.cell; have hcx1 := hO.b1.cell)
        | (go_at_call 8; (with_reducible refine (hre _ hO.below).mono ?_); rintro e w2 ⟨rfl, hb2⟩; replace hO := hO.grow hb2; have hcl2 := hO.b0.cell; have hcx2 := hO.b1.cell))
      go_ret
      exact ⟨none, 0, rfl, RowsAt.nil _ _, hO.below⟩

    have f2 : decide (now < 0) = false := by simpa using h2
    by_cases h3 : 268435456 < now
    · rw [if_pos (.inr (by simp; omega))] at hA
      subst hA
      have f3 : decide (268435456 < now) = true := by simpa using h3
      clear hex
      unfold maC at hre
      unfold TpM.cells at *
      go_enter Tryz.func7, Tryz.ntmps7
      go_wp2_with (first
        | ((with_reducible refine own_loadg1 hO ?_ _ rfl rfl _ Tryz.underlying44 rfl (trC_info _ xm) ?_); (· first | rfl | (simp [Region.wanted, yielded]; done)))
        | (go_at_call 12; (with_reducible refine (hfx _ hO.below).mono ?_); rintro e w1 ⟨rfl, hb1⟩; replace hO := hO.grow hb1; have hcl1 := hO.b0.cell; have hcx1 := hO.b1.cell)
        | (go_at_call 8; (with_reducible refine (hre _ hO.below).mono ?_); rintro e w2 ⟨rfl, hb2⟩; replace hO := hO.grow hb2; have hcl2 := hO.b0.cell; have hcx2 := hO.b1.cell))
      go_ret
      exact ⟨none, 0, rfl, RowsAt.nil _ _, hO.below⟩

    have f3 : decide (268435456 < now) = false := by simpa using h3
    rw [if_neg (by simp; omega)] at hA
    by_cases h4 : rr ≤ n
    · rw [if_pos h4] at hA
      subst hA
      have f4 : decide (rr ≤ n) = true := by simpa using h4
      clear hex
      unfold maC at hre
      unfold TpM.cells at *
      go_enter Tryz.func7, Tryz.ntmps7
      go_wp2_with (first
        | ((with_reducible refine own_loadg1 hO ?_ _ rfl rfl _ Tryz.underlying44 rfl (trC_info _ xm) ?_); (· first | rfl | (simp [Region.wanted, yielded]; done)))
        | (go_at_call 12; (with_reducible refine (hfx _ hO.below).mono ?_); rintro e w1 ⟨rfl, hb1⟩; replace hO := hO.grow hb1; have hcl1 := hO.b0.cell; have hcx1 := hO.b1.cell)
        | (go_at_call 8; (with_reducible refine (hre _ hO.below).mono ?_); rintro e w2 ⟨rfl, hb2⟩; replace hO := hO.grow hb2; have hcl2 := hO.b0.cell; have hcx2 := hO.b1.cell))
      go_ret
      exact ⟨none, 0, rfl, RowsAt.nil _ _, hO.below⟩

    have f4 : decide (rr ≤ n) = false := by simpa using h4
    rw [if_neg h4] at hA
    rw [← hA] at hex
    replace hex := fun W (hW : Below w.heap.size w W) => hex W hW (by omega)
    clear hA
    unfold maC at hre hex
    unfold TpM.cells at *
    go_enter Tryz.func7, Tryz.ntmps7
    go_wp2_with (first
      | ((with_reducible refine own_loadg1 hO ?_ _ rfl rfl _ Tryz.underlying44 rfl (trC_info _ xm) ?_); (· first | rfl | (simp [Region.wanted, yielded]; done)))
      | (go_at_call 12; (with_reducible refine (hfx _ hO.below).mono ?_); rintro e w1 ⟨rfl, hb1⟩; replace hO := hO.grow hb1; have hcl1 := hO.b0.cell; have hcx1 := hO.b1.cell)
      | (go_at_call 8; (with_reducible refine (hre _ hO.below).mono ?_); rintro e w2 ⟨rfl, hb2⟩; replace hO := hO.grow hb2; have hcl2 := hO.b0.cell; have hcx2 := hO.b1.cell)
      | (go_at_call 27; (with_reducible refine (hex _ hO.below).mono ?_); rintro e w3 ⟨A9, c9, rfl, hr9, hb3⟩; replace hO := hO.grow hb3))
    go_ret
    exact ⟨A9, c9, rfl, hr9, hO.below⟩
end Go.Proofs.YtpjdcpicfkdioaaGreatDoor
/- onboard.copied: a train that shares nothing. -/
set_option linter.unusedSimpArgs false
set_option linter.unusedVariables false
namespace Go.Proofs.YtpjdcpicfkdioaaGreatDoor
open Go.RowKit Go.Shelf

/-- A train whose rows lie in memory of the call's own. -/
structure TrOwn (w : World) (base : Nat) (x : Tr) (m : TrM) : Prop where
  path : OwnRows encSt 98 w base m.v.A1 m.v.c1 x.ma.path
  sects : OwnRows encSc 80 w base m.v.A2 m.v.c2 x.ma.sects
  stops : OwnRows encI 3 w base m.A3 m.c3 x.stops
  e1 : x.ma.path.length = m.v.n1
  e2 : x.ma.sects.length = m.v.n2
  e3 : x.stops.length = m.n3
  l1 : m.v.n1 ≤ 100
  l2 : m.v.n2 ≤ 100
  l3 : m.n3 ≤ 100
theorem TrOwn.is {w : World} {base : Nat} {x : Tr} {m : TrM} (h : TrOwn w base x m) : TrIs w x m :=
  ⟨⟨h.path.rows, h.sects.rows, h.e1, h.e2, h.l1, h.l2, by rw [← h.e1]; exact h.path.cap.1, by rw [← h.e2]; exact h.sects.cap.1⟩, h.stops.rows, h.e3, h.l3, by rw [← h.e3]; exact h.stops.cap.1⟩
theorem TrOwn.below {w w' : World} {base : Nat} {x : Tr} {m : TrM} (h : TrOwn w base x m) (hb : Below w.heap.size w w') : TrOwn w' base x m := { h with path := h.path.below hb, sects := h.sects.below hb, stops := h.stops.below hb }
theorem TrOwn.mono {w : World} {base base' : Nat} {x : Tr} {m : TrM} (h : TrOwn w base x m) (hb : base' ≤ base) : TrOwn w base' x m := { h with path := h.path.mono hb, sects := h.sects.mono hb, stops := h.stops.mono hb }
theorem TrOwn.far {w w' : World} {base g : Nat} {x : Tr} {m : TrM} (h : TrOwn w base x m) (hlt : g < base) (hk : ∀ k, k ≠ g → w'.heap[k]? = w.heap[k]?) : TrOwn w' base x m := { h with path := h.path.far hlt hk, sects := h.sects.far hlt hk, stops := h.stops.far hlt hk }
theorem trC_set42 (x : Tr) (m : TrM) (A : Option Addr) (c : Nat) : (trC x m).setIfInBounds 42 (.slice A m.v.n1 c) = trC x { m with v := { m.v with A1 := A, c1 := c } } := rfl
theorem trC_set43 (x : Tr) (m : TrM) (A : Option Addr) (c : Nat) : (trC x m).setIfInBounds 43 (.slice A m.v.n2 c) = trC x { m with v := { m.v with A2 := A, c2 := c } } := rfl
theorem trC_set47 (x : Tr) (m : TrM) (A : Option Addr) (c : Nat) : (trC x m).setIfInBounds 47 (.slice A m.n3 c) = trC x { m with A3 := A, c3 := c } := rfl
theorem trC_get (x : Tr) (m : TrM) (i : Nat) (hi : i < 48) : i < (trC x m).size := hi
/-- The same words, with rows somewhere else. -/
def trAt (m : TrM) (A1 : Option Addr) (c1 : Nat) (A2 : Option Addr) (c2 : Nat) (A3 : Option Addr) (c3 : Nat) : TrM := { m with v := ⟨A1, m.v.n1, c1, A2, m.v.n2, c2⟩, A3 := A3, c3 := c3 }
def RetCopied (x : Tr) (m : TrM) (w : World) (e : Ending) (w' : World) : Prop := (∃ A1 c1 A2 c2 A3 c3, e = .returned (.agg (trC x (trAt m A1 c1 A2 c2 A3 c3))) ∧ TrOwn w' w.heap.size x (trAt m A1 c1 A2 c2 A3 c3)) ∧ Below w.heap.size w w'
set_option maxRecDepth 8000 in
set_option maxHeartbeats 4000000 in
theorem copied_k (x : Tr) (m : TrM) (w : World) (hx : TrIs w x m) : Calls Tryz.prog 15 #[.agg (trC x m)] w (RetCopied x m w) := by
  have hO : Own w _ [_, _] := Own.start2 w 44 44 (trC x m) #[.int .i64 0, .int .i64 0, .int .i64 0, .int .i64 0, .int .i64 0, .int .i64 0, .int .i64 0, .int .i64 0, .int .i64 0, .int .i64 0, .int .i64 0, .int .i64 0, .int .i64 0, .int .u32 0, .int .u32 0, .int .u32 0, .int .u32 0, .int .i64 0, .int .u32 0, .int .u32 0, .int .u32 0, .int .u32 0, .int .u32 0, .int .u32 0, .bool false, .int .u32 0, .int .u32 0, .int .u32 0, .int .i64 0, .int .i64 0, .int .i64 0, .bool false, .int .i64 0, .bool false, .int .i64 0, .int .i64 0, .bool false, .int .i64 0, .int .i64 0, .bool false, .int .i64 0, .bool false, .slice none 0 0, .slice none 0 0, .int .i64 0, .int .i64 0, .bool false, .slice none 0 0]
  have hcx := hO.b0.cell
  have t42 := tr42 x m
  have t43 := tr43 x m
  have t47 := tr47 x m
  have hc1 := fun W (hW : Below w.heap.size w W) => clSt_k m.v.A1 m.v.n1 m.v.c1 x.ma.path W (hx.ma.path.below hW) hx.ma.e1 (by have := hx.ma.l1; omega)
  have hc2 := fun W (hW : Below w.heap.size w W) => clSc_k m.v.A2 m.v.n2 m.v.c2 x.ma.sects W (hx.ma.sects.below hW) hx.ma.e2 (by have := hx.ma.l2; omega)
  have hc3 := fun W (hW : Below w.heap.size w W) => clI_k m.A3 m.n3 m.c3 x.stops W (hx.stops.below hW) hx.e3 (by have := hx.l3; omega)
  go_enter Tryz.func15, Tryz.ntmps15
  go_wp2_with (first
    | (go_at_call 41; (with_reducible refine (hc1 _ hO.below).mono ?_); rintro e w1 ⟨A1, c1, rfl, ho1, hb1⟩; replace hO := hO.grow hb1)
    | ((with_reducible refine own_cell0 42 (.slice A1 m.v.n1 c1) hO rfl 39 _ _ rfl rfl rfl (by kernel_rfl) ?_ rfl ?_); (· exact trC_get x m 42 (by decide)); intro wR hOR hszR hkR; replace hO := hOR; clear hOR; replace ho1 := ho1.far (by simp; omega) hkR; clear hkR hszR hcx; rw [trC_set42] at hO; have hlt1 := hO.b0.lt; have hlu1 := hO.b1.lt; have hcx := hO.b0.cell; have t43 := tr43 x { m with v := { m.v with A1 := A1, c1 := c1 } }; have t47 := tr47 x { m with v := { m.v with A1 := A1, c1 := c1 } })
    | (go_at_call 42; (with_reducible refine (hc2 _ hO.below).mono ?_); rintro e w2 ⟨A2, c2, rfl, ho2, hb2⟩; replace hO := hO.grow hb2; replace ho1 := ho1.below hb2)
    | ((with_reducible refine own_cell0 43 (.slice A2 m.v.n2 c2) hO rfl 40 _ _ rfl rfl rfl (by kernel_rfl) ?_ rfl ?_); (· exact trC_get x _ 43 (by decide)); intro wR hOR hszR hkR; replace hO := hOR; clear hOR; replace ho1 := ho1.far (by simp; omega) hkR; replace ho2 := ho2.far hlt1 hkR; clear hkR hszR hcx; rw [trC_set43 x { m with v := { m.v with A1 := A1, c1 := c1 } }] at hO; have hlt2 := hO.b0.lt; have hlu2 := hO.b1.lt; have hcx := hO.b0.cell; have t47 := tr47 x { m with v := ⟨A1, m.v.n1, c1, A2, m.v.n2, c2⟩ })
    | (go_at_call 43; (with_reducible refine (hc3 _ hO.below).mono ?_); rintro e w3 ⟨A3, c3, rfl, ho3, hb3⟩; replace hO := hO.grow hb3; replace ho1 := ho1.below hb3; replace ho2 := ho2.below hb3)
    | ((with_reducible refine own_cell0 47 (.slice A3 m.n3 c3) hO rfl 22 _ _ rfl rfl rfl (by kernel_rfl) ?_ rfl ?_); (· exact trC_get x _ 47 (by decide)); intro wR hOR hszR hkR; replace hO := hOR; clear hOR; replace ho1 := ho1.far (by simp; omega) hkR; replace ho2 := ho2.far hlt1 hkR; replace ho3 := ho3.far hlt2 hkR; clear hkR hszR hcx; rw [trC_set47 x { m with v := ⟨A1, m.v.n1, c1, A2, m.v.n2, c2⟩ }] at hO)
    | ((with_reducible refine own_loadg0 hO ?_ _ rfl rfl _ Tryz.underlying44 rfl (trC_info x _) ?_); (· first | rfl | (simp [Region.wanted, yielded]; done)))
    | ((with_reducible refine own_row1 (trC x (trAt m A1 c1 A2 c2 A3 c3)) hO rfl _ _ rfl rfl rfl (trC_info x _) rfl (trC_ones x _) ?_); intro wR hOR hszR hkR; replace hO := hOR; clear hOR; replace ho1 := ho1.far (by simp <;> omega) hkR; replace ho2 := ho2.far hlu1 hkR; replace ho3 := ho3.far hlu2 hkR)
    )
  exact bodyPost_ret (results_c Tryz.results15 _ _ _ _ _ rfl hO.b1 Tryz.underlying44 rfl (trC_info x _)) rfl ⟨⟨A1, c1, A2, c2, A3, c3, rfl, ho1.mono (by simp <;> omega), ho2.mono (Nat.le_of_lt hlt1), ho3.mono (Nat.le_of_lt hlt2), hx.ma.e1, hx.ma.e2, hx.e3, hx.ma.l1, hx.ma.l2, hx.l3⟩, hO.below⟩
end Go.Proofs.YtpjdcpicfkdioaaGreatDoor
/- A map of the call's own with int keys: made, filled, looked up, beside own blocks. -/
namespace Go.Proofs.YtpjdcpicfkdioaaGreatDoor
open Go.RowKit

theorem Own.add {w W : World} {L : List Bk} (h : Own w W L) {g : Nat} {t : TypeId} {cs : Array Value} (hb : Blk W g t cs) (hg : w.heap.size ≤ g) (hn : ∀ x ∈ L, x.1 ≠ g) : Own w W (L ++ [(g, t, cs)]) := by
  refine ⟨h.below, fun x hx => ?_, ?_⟩
  · rcases List.mem_append.1 hx with hx | hx
    · exact h.blk x hx
    · rw [List.mem_singleton] at hx
      subst hx
      exact ⟨hg, hb⟩
  · rw [List.map_append, List.nodup_append]
    refine ⟨h.nodup, by simp, ?_⟩
    intro a ha b hb
    simp only [List.map_cons, List.map_nil, List.mem_singleton] at hb
    subst hb
    obtain ⟨x, hx, rfl⟩ := List.mem_map.1 ha
    exact hn x hx
theorem Own.turn {w W W' : World} {L : List Bk} {b : Nat} (h : Own w W L) (hb : w.heap.size ≤ b) (hn : ∀ x ∈ L, x.1 ≠ b) (hz : W.heap.size ≤ W'.heap.size) (hk : ∀ k, k < W.heap.size → k ≠ b → W'.heap[k]? = W.heap[k]?) (ho : W'.os = W.os ∧ W'.tape = W.tape ∧ W'.output = W.output) : Own w W' L :=
  h.grown (R := some b) ⟨ho.1, ho.2.1, ho.2.2, hz, fun k h1 h2 => hk k h1 (fun e => h2 (by rw [e]))⟩ (fun g hg => by
    simp only [Option.some.injEq] at hg
    subst hg
    exact ⟨hb, hn⟩)
section
variable {P : Program} {w W : World} {ops : Array Oper} {rest : List Oper} {o : Oper} {a : Act} {Q : Exit → Act → World → Prop} {L : List Bk} {b : Nat} {es : Array MapEntry} {cl : Nat} {t kt e : TypeId}
def putMap (W : World) (b : Nat) (o : Obj) : World := { W with heap := W.heap.setIfInBounds b o }
theorem run_insert_int (ht : P.underlying t = some (.map kt e)) (hkt : P.underlying kt = some (.int .i64)) (hb : W.heap[b]? = some (.map es cl)) (i : Int) (v : Value) (hf : Instr.findNow (.int .i64) (.int .i64 i) es.toList 0 = some none) : (Instr.mapUpdate t (.map (some b)) (.int .i64 i) v).run P W = .ok () (putMap W b (.map (es.push ⟨.int .i64 i, v, cl⟩) (cl + 1))) := by
  have hc := MapKept.run_checkKey (P := P) (w := W) hkt (k := .int .i64 i) (by trivial) false 9999
  simp [Instr.mapUpdate, run_underlying ht, MapKept.run_getObj_map hb, hc, Instr.findKey, run_underlying hkt, hf, MapKept.run_setObj_map _ hb, putMap]
theorem run_lookup_int (ht : P.underlying t = some (.map kt e)) (hkt : P.underlying kt = some (.int .i64)) (hb : W.heap[b]? = some (.map es cl)) (i : Int) (j : Nat) (v : Value) (hf : Instr.findNow (.int .i64) (.int .i64 i) es.toList 0 = some (some (j, v))) : (Instr.lookup t (.map (some b)) (.int .i64 i) true).run P W = .ok (.tuple #[v, .bool true]) W := by
  have hc := MapKept.run_checkKey (P := P) (w := W) hkt (k := .int .i64 i) (by trivial) es.isEmpty 9999
  simp [Instr.lookup, run_underlying ht, MapKept.run_getObj_map hb, hc, Instr.findKey, run_underlying hkt, hf]
theorem putMap_grown (W : World) (b : Nat) (o : Obj) : W.grownBy (putMap W b o) (some b) := by
  refine ⟨rfl, rfl, rfl, by simp [putMap], fun k _ hne => ?_⟩
  unfold putMap
  simp only
  exact Array.getElem?_setIfInBounds_ne (fun e => hne (by rw [e]))
theorem Own.mapped (h : Own w W L) (hb : W.heap[b]? = some (.map es cl)) (hg : w.heap.size ≤ b) (hn : ∀ x ∈ L, x.1 ≠ b) (o : Obj) : Own w (putMap W b o) L ∧ (putMap W b o).heap[b]? = some o := by
  refine ⟨h.turn hg hn (by simp [putMap]) (fun k _ hk => by simp [putMap, Array.getElem?_setIfInBounds_ne (fun e => hk e.symm)]) ⟨rfl, rfl, rfl⟩, ?_⟩
  have hlt : b < W.heap.size := by
    rcases Nat.lt_or_ge b W.heap.size with h | h
    · exact h
    · rw [Array.getElem?_eq_none h] at hb
      cases hb
  simp [putMap, hlt]
theorem wpList_makeMap_own (hO : Own w W L) (hgd : o.guard = none) (ho : o.op = .makeMap t none)
    (h : ∀ W' : World, Own w W' L → W'.heap[W.heap.size]? = some (.map #[] 0) → Below W.heap.size W W' → wpList P ops Q rest (a.put o.dst (.map (some W.heap.size))) W') : wpList P ops Q (o :: rest) a W := by
  refine wpList_plain hgd fun K hK => ?_
  have hb : Below W.heap.size W (W.alloc (.map #[] 0)) := (Below.refl _ _).alloc (Nat.le_refl _) _
  have := hK _ _ (h _ (hO.grow hb) (heap_alloc_new W _) hb)
  unfold Oper.wp execOp
  simp only [ho, Option.map_none, Sem.run_bind, run_makeMap, Result.andThen_ok]
  exact this
theorem wpList_insert_own (hO : Own w W L) (hM : W.heap[b]? = some (.map es cl)) (hg : w.heap.size ≤ b) (hn : ∀ x ∈ L, x.1 ≠ b) (hgd : o.guard = none) (m k y : Operand) (ho : o.op = .insert t m k y) (hm : a.eval m = .map (some b)) (i : Int) (hk : a.eval k = .int .i64 i) (v : Value) (hy : a.eval y = v)
    (ht : P.underlying t = some (.map kt e)) (hkt : P.underlying kt = some (.int .i64)) (hf : Instr.findNow (.int .i64) (.int .i64 i) es.toList 0 = some none)
    (h : ∀ W' : World, Own w W' L → W'.heap[b]? = some (.map (es.push ⟨.int .i64 i, v, cl⟩) (cl + 1)) → W.grownBy W' (some b) → wpList P ops Q rest (a.put o.dst undef) W') : wpList P ops Q (o :: rest) a W := by
  refine wpList_plain hgd fun K hK => ?_
  obtain ⟨h1, h2⟩ := hO.mapped hM hg hn (.map (es.push ⟨.int .i64 i, v, cl⟩) (cl + 1))
  have := hK _ _ (h _ h1 h2 (putMap_grown _ _ _))
  unfold Oper.wp execOp
  simp only [ho, hm, hk, hy, Sem.run_bind, run_insert_int ht hkt hM i v hf, Result.andThen_ok]
  exact this
theorem wpList_lookup_own (hM : W.heap[b]? = some (.map es cl)) (hgd : o.guard = none) (m k : Operand) (ho : o.op = .lookup t m k true) (hm : a.eval m = .map (some b)) (i : Int) (hk : a.eval k = .int .i64 i) (j : Nat) (v : Value)
    (ht : P.underlying t = some (.map kt e)) (hkt : P.underlying kt = some (.int .i64)) (hf : Instr.findNow (.int .i64) (.int .i64 i) es.toList 0 = some (some (j, v)))
    (h : wpList P ops Q rest (a.put o.dst (.tuple #[v, .bool true])) W) : wpList P ops Q (o :: rest) a W := by
  refine wpList_plain hgd fun K hK => ?_
  have := hK _ _ h
  unfold Oper.wp execOp
  simp only [ho, hm, hk, Sem.run_bind, run_lookup_int ht hkt hM i j v hf, Result.andThen_ok]
  exact this
end
end Go.Proofs.YtpjdcpicfkdioaaGreatDoor
/- onboard.Step: what its regions lay. -/
namespace Go.Proofs.YtpjdcpicfkdioaaGreatDoor
open Go.RowKit Go.Shelf

def cabC (m : TpM) (x : Tr) (xm : TrM) (now : Int) : Array Value := m.cells ++ trC x xm ++ #[.int .i64 now, .slice none 0 0]
def zeroTr : Array Value := #[.int .i64 0, .int .i64 0, .int .i64 0, .int .i64 0, .int .i64 0, .int .i64 0, .int .i64 0, .int .i64 0, .int .i64 0, .int .i64 0, .int .i64 0, .int .i64 0, .int .i64 0, .int .u32 0, .int .u32 0, .int .u32 0, .int .u32 0, .int .i64 0, .int .u32 0, .int .u32 0, .int .u32 0, .int .u32 0, .int .u32 0, .int .u32 0, .bool false, .int .u32 0, .int .u32 0, .int .u32 0, .int .i64 0, .int .i64 0, .int .i64 0, .bool false, .int .i64 0, .bool false, .int .i64 0, .int .i64 0, .bool false, .int .i64 0, .int .i64 0, .bool false, .int .i64 0, .bool false, .slice none 0 0, .slice none 0 0, .int .i64 0, .int .i64 0, .bool false, .slice none 0 0]
theorem cabC_size (m : TpM) (x : Tr) (xm : TrM) (now : Int) : (cabC m x xm now).size = 54 := by simp [cabC, TpM.cells, trC_size]
theorem wp_build_is {o : Oper} {a : Act} {w : World} {K : Act → World → Prop} {Q : Exit → Act → World → Prop} (t : TypeId) (parts : Array (Nat × Operand)) (ho : o.op = .build t parts) (ps : List (Nat × Value)) (hps : (parts.map fun (i, x) => (i, a.eval x)).toList = ps) (cs : Array Value) (hc : Tryz.prog.built t ps = some cs) (h : K (a.put o.dst (.agg cs)) w) : o.wp Tryz.prog a w K Q := by
  subst hps
  exact wp_build t parts ho (by rw [hc]; rfl) (by rw [hc]; exact h)
theorem built_cab (m : TpM) (x : Tr) (xm : TrM) (now : Int) : Tryz.prog.built 69 [(0, .agg m.cells), (1, .agg (trC x xm)), (2, .int .i64 now)] = some (cabC m x xm now) := by kernel_rfl
theorem wp_store_c1 {P : Program} {o : Oper} {a : Act} {w : World} {K : Act → World → Prop} {Q : Exit → Act → World → Prop} (ty : TypeId) (x y : Operand) (ho : o.op = .store ty x y) (g i : Nat) (hx : a.eval x = .pointer (some ⟨g, i, none⟩)) (v : Value) (hy : a.eval y = v)
    (t : TypeId) (old : Array Value) (hg : Blk w g t old) (hil : i < old.size) (hi : (P.info? ty).map (·.size) = some 1) (h1 : v.oneCell' = true) (h : K (a.put o.dst undef) (w.setCell ⟨g, i, none⟩ v)) : o.wp P a w K Q := by
  have hrun := run_storeVar_cell (P := P) w g i t ty old v hg hil hi h1
  unfold Oper.wp execOp
  simp only [ho, hx, hy, Instr.storeAt, Instr.sureAddr, Sem.run_bind, Sem.run_pure, Result.andThen_ok, hrun]
  exact h
/-- This block is none of those in which a train's rows may lie. -/
def NoRow (w : World) (g : Nat) : Prop := ∀ t cs, Blk w g t cs → t ≠ 98 ∧ t ≠ 80 ∧ t ≠ 3
theorem noRow_blk {w : World} {g : Nat} {t : TypeId} {cs : Array Value} (h : Blk w g t cs) (ht : t ≠ 98 ∧ t ≠ 80 ∧ t ≠ 3) : NoRow w g := fun t' cs' h' => by
  unfold Blk at h h'
  rw [h] at h'
  simp only [Option.some.injEq, Obj.cells.injEq] at h'
  rw [← h'.2.1]
  exact ht
theorem noRow_map {w : World} {g : Nat} {es : Array MapEntry} {cl : Nat} (h : w.heap[g]? = some (.map es cl)) : NoRow w g := fun t' cs' h' => by
  unfold Blk at h'
  rw [h] at h'
  simp at h'
theorem OwnRows.away {α : Type} {E : Laid α} {t : TypeId} {w w' : World} {base b c : Nat} {A : Option Addr} {xs : List α} (h : OwnRows E t w base A c xs) (hg : w.grownBy w' (some b)) (hne : ∀ cs, ¬ Blk w b t cs) : OwnRows E t w' base A c xs := h.off hg fun g hA e => by
  obtain ⟨g', cur, e1, _, hb, _⟩ := h.blk (by rintro rfl; cases hA)
  subst e1
  simp only [Option.map_some, Option.some.injEq] at hA e
  subst hA
  subst e
  exact hne cur hb
theorem TrOwn.away {w w' : World} {base b : Nat} {x : Tr} {m : TrM} (h : TrOwn w base x m) (hg : w.grownBy w' (some b)) (hn : NoRow w b) : TrOwn w' base x m := { h with path := h.path.away hg (fun cs hb => (hn _ _ hb).1 rfl), sects := h.sects.away hg (fun cs hb => (hn _ _ hb).2.1 rfl), stops := h.stops.away hg (fun cs hb => (hn _ _ hb).2.2 rfl) }
/-- A train that was copied; what is built of it; the new box of it; the box's own pointer. -/
def CopW (B : Nat) (x : Tr) (xm : TrM) : Value → World → Prop := fun v w => ∃ A1 c1 A2 c2 A3 c3, v = .agg (trC x (trAt xm A1 c1 A2 c2 A3 c3)) ∧ TrOwn w B x (trAt xm A1 c1 A2 c2 A3 c3)
def BldW (B : Nat) (m : TpM) (x : Tr) (xm : TrM) (now : Int) : Value → World → Prop := fun v w => ∃ A1 c1 A2 c2 A3 c3, v = .agg (cabC m x (trAt xm A1 c1 A2 c2 A3 c3) now) ∧ TrOwn w B x (trAt xm A1 c1 A2 c2 A3 c3)
def BoxW (B : Nat) (m : TpM) (x : Tr) (xm : TrM) (now : Int) : Value → World → Prop := fun v w => ∃ g A1 c1 A2 c2 A3 c3, v = .pointer (some ⟨g, 0, none⟩) ∧ B ≤ g ∧ Blk w g 69 (cabC m x (trAt xm A1 c1 A2 c2 A3 c3) now) ∧ TrOwn w B x (trAt xm A1 c1 A2 c2 A3 c3)
def AlcW (B : Nat) : Value → World → Prop := fun v w => ∃ g y, v = .pointer (some ⟨g, 0, none⟩) ∧ B ≤ g ∧ Blk w g 66 #[y]
theorem grows_cop (B : Nat) (x : Tr) (xm : TrM) : Grows (CopW B x xm) := fun v w w' ⟨A1, c1, A2, c2, A3, c3, h1, h2⟩ hb => ⟨A1, c1, A2, c2, A3, c3, h1, h2.below hb⟩
theorem grows_bld (B : Nat) (m : TpM) (x : Tr) (xm : TrM) (now : Int) : Grows (BldW B m x xm now) := fun v w w' ⟨A1, c1, A2, c2, A3, c3, h1, h2⟩ hb => ⟨A1, c1, A2, c2, A3, c3, h1, h2.below hb⟩
theorem grows_box (B : Nat) (m : TpM) (x : Tr) (xm : TrM) (now : Int) : Grows (BoxW B m x xm now) := fun v w w' ⟨g, A1, c1, A2, c2, A3, c3, h0, h1, h3, h2⟩ hb => ⟨g, A1, c1, A2, c2, A3, c3, h0, h1, h3.below hb h3.lt, h2.below hb⟩
theorem grows_alc (B : Nat) : Grows (AlcW B) := fun v w w' ⟨g, y, h0, h1, h3⟩ hb => ⟨g, y, h0, h1, h3.below hb h3.lt⟩
theorem results_ctt {P : Program} {fn : Func} {a c d : Tmp} {t1 : TypeId} (h : fn.results = #[.cell a t1, .tmp c, .tmp d]) (tmps : Array Value) (w : World) (g1 : Nat) (c1 : Array Value) (v v2 : Value) (d1 : TypeDesc)
    (ha : tmps.getD a undef = .pointer (some ⟨g1, 0, none⟩)) (hc : tmps.getD c undef = v) (hd : tmps.getD d undef = v2) (h1 : Blk w g1 t1 c1)
    (u1 : P.underlying t1 = some d1) (k1 : (match d1 with | .struct _ | .array _ _ => true | _ => false) = true) (i1 : (P.info? t1).map (·.size) = some c1.size) :
    (results fn tmps).run P w = .ok (.tuple #[.agg c1, v, v2]) w := by
  have ha' : tmps[a]?.getD undef = .pointer (some ⟨g1, 0, none⟩) := by simpa using ha
  have hc' : tmps[c]?.getD undef = v := by simpa using hc
  have hd' : tmps[d]?.getD undef = v2 := by simpa using hd
  simp [results, h, ha', hc', hd', asAddr, run_loadVar_row w g1 t1 t1 c1 (0, 0) d1 h1 u1 k1 i1]
theorem Own.change {w W W' : World} {L1 L2 : List Bk} {g : Nat} {t : TypeId} {old new : Array Value} (h : Own w W (L1 ++ (g, t, old) :: L2)) (hg : W.grownBy W' (some g)) (hb : Blk W' g t new) : Own w W' (L1 ++ (g, t, new) :: L2) := by
  have hgo := h.blk (g, t, old) (by simp)
  have hnd := h.nodup
  rw [List.map_append, List.map_cons, List.nodup_append] at hnd
  obtain ⟨n1, n2, n3⟩ := hnd
  rw [List.nodup_cons] at n2
  refine ⟨h.below.trans ⟨hg.os, hg.tape, hg.output, hg.size, fun k hk => hg.block k (Nat.lt_of_lt_of_le hk h.below.size) (fun e => by simp only [Option.some.injEq] at e; have := hgo.1; simp only at this; omega)⟩, fun x hx => ?_, ?_⟩
  · have keep : ∀ x ∈ L1 ++ (g, t, old) :: L2, x.1 ≠ g → w.heap.size ≤ x.1 ∧ Blk W' x.1 x.2.1 x.2.2 := fun x hx hne => by
      obtain ⟨h1, h2⟩ := h.blk x hx
      exact ⟨h1, (hg.block x.1 h2.lt (fun e => hne (by simpa using e))).trans h2⟩
    rcases List.mem_append.1 hx with hx | hx
    · refine keep x (by simp [hx]) (fun e => ?_)
      exact n3 x.1 (List.mem_map_of_mem hx) g (by simp) e
    · rcases List.mem_cons.1 hx with rfl | hx
      · exact ⟨hgo.1, hb⟩
      · refine keep x (by simp [hx]) (fun e => ?_)
        exact n2.1 (List.mem_map.2 ⟨x, hx, e⟩)
  · have := h.nodup
    simp only [List.map_append, List.map_cons] at this ⊢
    exact this
theorem movedR_same (t : Tp) (x : Tr) (n now : Int) : (movedR t x n now).ma = x.ma ∧ (movedR t x n now).stops = x.stops := by
  unfold movedR
  split
  · unfold movedX
    split <;> exact ⟨rfl, rfl⟩
  · exact ⟨rfl, rfl⟩
theorem TrOwn.moved {w : World} {base : Nat} {x y : Tr} {m : TrM} (h : TrOwn w base x m) (hm : y.ma = x.ma ∧ y.stops = x.stops) : TrOwn w base y m := by
  obtain ⟨h1, h2⟩ := hm
  exact ⟨by rw [h1]; exact h.path, by rw [h1]; exact h.sects, by rw [h2]; exact h.stops, by rw [h1]; exact h.e1, by rw [h1]; exact h.e2, by rw [h2]; exact h.e3, h.l1, h.l2, h.l3⟩
theorem blk_ne {w : World} {g1 g2 : Nat} {t1 t2 : TypeId} {c1 c2 : Array Value} (h1 : Blk w g1 t1 c1) (h2 : Blk w g2 t2 c2) (ht : t1 ≠ t2) : g1 ≠ g2 := by
  rintro rfl
  unfold Blk at h1 h2
  rw [h1] at h2
  simp only [Option.some.injEq, Obj.cells.injEq] at h2
  exact ht h2.2.1
theorem cabC_out (m : TpM) (x : Tr) (xm : TrM) (now : Int) : (cabC m x xm now)[53]? = some (.slice none 0 0) := by
  have h4 : m.cells.size = 4 := rfl
  unfold cabC
  rw [Array.getElem?_append_right (by simp [h4, trC_size])]
  simp [h4, trC_size]
end Go.Proofs.YtpjdcpicfkdioaaGreatDoor
