/- Texts in one: Few TopoIn StopsPlain. -/
import Derived.Test.YtkaggddmhjifjaaGreatDoorK26
import Derived.Test.YtkaggddmhjifjaaGreatDoorK13
import Derived.Test.YtkaggddmhjifjaaGreatDoorK19
import Derived.Test.YtkaggddmhjifjaaGreatDoorK04
set_option linter.unusedSimpArgs false
set_option linter.unusedVariables false
namespace Go.Proofs.YtkaggddmhjifjaaGreatDoor
open Go.RowKit Go.Shelf
set_option maxRecDepth 8000 in
set_option maxHeartbeats 4000000 in
theorem light17_k {w : World} {t : Tp} {m : TpM} (h : TpL w t m) (hc : m.n4 ≤ 9223372036854775807) (ma : Ma) (v : MaM) : Calls Tryz.prog 21 #[.agg m.cells, .agg (maC ma v)] w fun e w' => e = .returned (.bool (lightT t m && decide (v.n1 ≤ 100) && decide (v.n2 ≤ 100))) ∧ Below w.heap.size w w' := by
 have hO : Own w _ [_, _] := Own.start2 w 27 42 m.cells (maC ma v)
 have hcl := hO.b0.cell
 have hlt := fun W (hW : Below w.heap.size w W) => light_k (h.below hW) hc
 generalize lightT t m = lt at *
 clear h hc
 unfold maC TpM.cells at *
 cases lt with
 | false =>
  go_enter Tryz.func21, Tryz.ntmps21
  go_wp2_with (first
   |(go_at_call 54; (with_reducible refine (hlt _ hO.below).mono ?_); rintro e w1 ⟨rfl, hb1⟩; replace hO := hO.grow hb1; have hcm := hO.b1.cell))
  go_ret
  exact ⟨rfl, hO.below⟩
 | true =>
  by_cases h1 : v.n1 ≤ 100
  ·
   have f1 : decide ((v.n1 : Int) ≤ 100) = true := by simp; omega
   by_cases h2 : v.n2 ≤ 100
   ·
    have f2 : decide ((v.n2 : Int) ≤ 100) = true := by simp; omega
    rw [show (true && decide (v.n1 ≤ 100) && decide (v.n2 ≤ 100)) = true by simp [h1, h2]]
    clear h1 h2
    go_enter Tryz.func21, Tryz.ntmps21
    go_wp2_with (first
     |(go_at_call 54; (with_reducible refine (hlt _ hO.below).mono ?_); rintro e w1 ⟨rfl, hb1⟩; replace hO := hO.grow hb1; have hcm := hO.b1.cell))
    go_ret
    exact ⟨rfl, hO.below⟩
   ·
    have f2 : decide ((v.n2 : Int) ≤ 100) = false := by simp; omega
    rw [show (true && decide (v.n1 ≤ 100) && decide (v.n2 ≤ 100)) = false by simp [h1, h2]]
    clear h1 h2
    go_enter Tryz.func21, Tryz.ntmps21
    go_wp2_with (first
     |(go_at_call 54; (with_reducible refine (hlt _ hO.below).mono ?_); rintro e w1 ⟨rfl, hb1⟩; replace hO := hO.grow hb1; have hcm := hO.b1.cell))
    go_ret
    exact ⟨rfl, hO.below⟩
  ·
   have f1 : decide ((v.n1 : Int) ≤ 100) = false := by simp; omega
   rw [show (true && decide (v.n1 ≤ 100) && decide (v.n2 ≤ 100)) = false by simp [h1]]
   clear h1
   go_enter Tryz.func21, Tryz.ntmps21
   go_wp2_with (first
    |(go_at_call 54; (with_reducible refine (hlt _ hO.below).mono ?_); rintro e w1 ⟨rfl, hb1⟩; replace hO := hO.grow hb1; have hcm := hO.b1.cell))
   go_ret
   exact ⟨rfl, hO.below⟩
set_option maxRecDepth 8000 in
set_option maxHeartbeats 4000000 in
theorem few_k {w : World} {t : Tp} {m : TpM} (h : TpL w t m) (hc : m.n4 ≤ 9223372036854775807) (x : Tr) (xm : TrM) : Calls Tryz.prog 5 #[.agg m.cells, .agg (trC x xm), .agg #[.int .i64 0, .int .i64 0, .slice none 0 0]] w fun e w' => e = .returned (.bool (lightT t m && decide (xm.v.n1 ≤ 100) && decide (xm.v.n2 ≤ 100) && decide (xm.n3 ≤ 40))) ∧ Below w.heap.size w w' := by
 have hO : Own w _ [_, _, _] := Own.start3 w 27 44 49 m.cells (trC x xm) #[.int .i64 0, .int .i64 0, .slice none 0 0]
 have hcl := hO.b0.cell
 have hcx := hO.b1.cell
 have hcc := hO.b2.cell
 have hlt := fun W (hW : Below w.heap.size w W) => light17_k (h.below hW) hc x.ma xm.v
 generalize (lightT t m && decide (xm.v.n1 ≤ 100) && decide (xm.v.n2 ≤ 100)) = lt at *
 clear h hc
 have t0 := tr0 x xm
 have t1 := tr1 x xm
 have t2 := tr2 x xm
 have t3 := tr3 x xm
 have t4 := tr4 x xm
 have t5 := tr5 x xm
 have t6 := tr6 x xm
 have t7 := tr7 x xm
 have t8 := tr8 x xm
 have t9 := tr9 x xm
 have t10 := tr10 x xm
 have t11 := tr11 x xm
 have t12 := tr12 x xm
 have t28 := tr28 x xm
 have t29 := tr29 x xm
 have t30 := tr30 x xm
 have t31 := tr31 x xm
 have t32 := tr32 x xm
 have t33 := tr33 x xm
 have t34 := tr34 x xm
 have t35 := tr35 x xm
 have t36 := tr36 x xm
 have t37 := tr37 x xm
 have t38 := tr38 x xm
 have t39 := tr39 x xm
 have t40 := tr40 x xm
 have t41 := tr41 x xm
 have t42 := tr42 x xm
 have t43 := tr43 x xm
 have t44 := tr44 x xm
 have t45 := tr45 x xm
 have t46 := tr46 x xm
 have t47 := tr47 x xm
 unfold maC at hlt
 unfold TpM.cells at *
 cases lt with
 | false =>
  go_enter Tryz.func5, Tryz.ntmps5
  go_wp2_with (first
   |(go_at_call 21; (with_reducible refine (hlt _ hO.below).mono ?_); rintro e w1 ⟨rfl, hb1⟩; replace hO := hO.grow hb1; have hcm := hO.b1.cell; have hcb := hO.b2.cell))
  go_ret
  exact ⟨rfl, hO.below⟩
 | true =>
  by_cases h1 : xm.n3 ≤ 40
  ·
   have f1 : decide ((xm.n3 : Int) ≤ 40) = true := by simp; omega
   rw [show (true && decide (xm.n3 ≤ 40)) = true by simp [h1]]
   clear h1
   go_enter Tryz.func5, Tryz.ntmps5
   go_wp2_with (first
    |(go_at_call 21; (with_reducible refine (hlt _ hO.below).mono ?_); rintro e w1 ⟨rfl, hb1⟩; replace hO := hO.grow hb1; have hcm := hO.b1.cell; have hcb := hO.b2.cell))
   go_ret
   exact ⟨rfl, hO.below⟩
  ·
   have f1 : decide ((xm.n3 : Int) ≤ 40) = false := by simp; omega
   rw [show (true && decide (xm.n3 ≤ 40)) = false by simp [h1]]
   clear h1
   go_enter Tryz.func5, Tryz.ntmps5
   go_wp2_with (first
    |(go_at_call 21; (with_reducible refine (hlt _ hO.below).mono ?_); rintro e w1 ⟨rfl, hb1⟩; replace hO := hO.grow hb1; have hcm := hO.b1.cell; have hcb := hO.b2.cell))
   go_ret
   exact ⟨rfl, hO.below⟩
end Go.Proofs.YtkaggddmhjifjaaGreatDoor
set_option linter.unusedSimpArgs false
set_option linter.unusedVariables false
namespace Go.Proofs.YtkaggddmhjifjaaGreatDoor
open Go.ChangeShapes Go.WideShapes Go.ChangeAt Go.RowKit Go.Deep
structure MaL (w : World) (m : Ma) (v : MaM) : Prop where
 path : RowsAt encSt w v.A1 m.path
 sects : RowsAt encSc w v.A2 m.sects
 e1 : m.path.length = v.n1
 e2 : m.sects.length = v.n2
 q1 : v.n1 ≤ v.c1
 q2 : v.n2 ≤ v.c2
structure TrL (w : World) (x : Tr) (m : TrM) : Prop where
 ma : MaL w x.ma m.v
 stops : RowsAt encI w m.A3 x.stops
 e3 : x.stops.length = m.n3
 q3 : m.n3 ≤ m.c3
 lo : -9223372036854775808 ≤ x.last
 hi : x.last ≤ 9223372036854775807
theorem TrL.is {w : World} {x : Tr} {m : TrM} (h : TrL w x m) (h1 : m.v.n1 ≤ 100) (h2 : m.v.n2 ≤ 100) (h3 : m.n3 ≤ 100) : TrIs w x m :=
 ⟨⟨h.ma.path, h.ma.sects, h.ma.e1, h.ma.e2, h1, h2, h.ma.q1, h.ma.q2⟩, h.stops, h.e3, h3, h.q3⟩
theorem MaL.below {w w' : World} {x : Ma} {m : MaM} (h : MaL w x m) (hb : Below w.heap.size w w') : MaL w' x m := { h with path := h.path.below hb, sects := h.sects.below hb }
theorem TrL.below {w w' : World} {x : Tr} {m : TrM} (h : TrL w x m) (hb : Below w.heap.size w w') : TrL w' x m := { h with ma := h.ma.below hb, stops := h.stops.below hb }
theorem list_of {α : Type} {P : Nat → α → Prop} : ∀ n : Nat, (∀ i, i < n → ∃ p, P i p) → ∃ xs : List α, xs.length = n ∧ ∀ i p, xs[i]? = some p → P i p
 | 0, _ => ⟨[], rfl, fun i p h => by simp at h⟩
 | n + 1, h => by
  obtain ⟨xs, hl, hx⟩ := list_of n (fun i hi => h i (by omega))
  obtain ⟨p, hp⟩ := h n (by omega)
  refine ⟨xs ++ [p], by simp [hl], fun i q hq => ?_⟩
  rw [List.getElem?_append] at hq
  split at hq
  ·
   exact hx i q hq
  ·
   have hi : i - xs.length = 0 := by
    rcases Nat.eq_zero_or_pos (i - xs.length) with h | h
    ·
     exact h
    ·
     rw [List.getElem?_eq_none (by simp; omega)] at hq; cases hq
   rw [hi] at hq
   simp at hq
   subst hq
   have : i = n := by omega
   subst this
   exact hp
section
variable {H : Type} {enc : TypeId × Value → H} {w : World} {base : Nat} {spare : Nat → Bool}
theorem bool_of_trod {held : Bool} {fuel : Nat} {v : Value} {x : DataW H × List MemPlace} (hf : DataW.trod enc Tryz.prog w base spare held fuel 4 [v] = some x) : ∃ b : Bool, v = .bool b := by
 obtain ⟨b, e, _⟩ := DataW.trod_bool Tryz.underlying4 hf
 exact ⟨b, by simpa using e⟩
theorem key_of_trod {held : Bool} {fuel : Nat} {cs : List Value} {x : DataW H × List MemPlace} (hl : cs.length = 4) (hf : DataW.trod enc Tryz.prog w base spare held fuel 32 cs = some x) : ∃ k : K4, cs = [q32 k.k0, q32 k.k1, q32 k.k2, q32 k.k3] := by
 have hc1 : Tryz.prog.cellsOf 30 = 1 := by kernel_rfl
 obtain ⟨xs, m, _, _, _, hlen, hg⟩ := DataW.trod_array Tryz.underlying32 hf
 rw [hc1] at hg
 match cs, hl with
 | [c0, c1, c2, c3], _ =>
 match xs, hlen with
 | [y0, y1, y2, y3], _ =>
  obtain ⟨a, rfl⟩ := trod_q32 (x := y0) (by simpa [Value.cells] using hg 0 (by decide))
  obtain ⟨b, rfl⟩ := trod_q32 (x := y1) (by simpa [Value.cells] using hg 1 (by decide))
  obtain ⟨c, rfl⟩ := trod_q32 (x := y2) (by simpa [Value.cells] using hg 2 (by decide))
  obtain ⟨d, rfl⟩ := trod_q32 (x := y3) (by simpa [Value.cells] using hg 3 (by decide))
  exact ⟨⟨a, b, c, d⟩, rfl⟩
theorem rows_of_trod {α : Type} (E : Laid α) {TS TE : TypeId} (Q : α → Prop) (ht : Tryz.prog.underlying TS = some (.slice TE)) (hk : Tryz.prog.cellsOf TE = E.k) {held : Bool}
  (ho : ∀ fuel cs x, DataW.trod enc Tryz.prog w base (fun _ => true) held fuel TE cs = some x → ∃ a, cs = E.enc a ∧ Q a)
  {fuel : Nat} {v : Value} {x : DataW H × List MemPlace} (hf : DataW.trod enc Tryz.prog w base (fun _ => true) held fuel TS [v] = some x) :
  ∃ (xs : List α) (A : Option Addr) (c : Nat), v = .slice A xs.length c ∧ RowsAt E w A xs ∧ xs.length ≤ c ∧ c ≤ maxLen ∧ ∀ a ∈ xs, Q a := by
 rcases open_slice ht hf with ⟨h0, _⟩ | ⟨a, len, cap, m, n, D, Pl, hcs, _, hl, hm, hmm, _, hi⟩
 ·
  simp only [List.cons.injEq, and_true] at h0
  subst h0
  exact ⟨[], none, 0, rfl, RowsAt.nil _ _, Nat.le_refl _, Nat.zero_le _, by simp⟩
 ·
  simp only [List.cons.injEq, and_true] at hcs
  subst hcs
  simp only [if_true] at hmm
  subst hmm
  rw [hk] at hi
  have hpos := E.pos
  obtain ⟨xs, hxl, hx⟩ := list_of (P := fun i (p : α) => Q p ∧ ∀ j u, (E.enc p)[j]? = some u → w.cell? (a.add (i * E.k + j)) = some u) len (fun i hlt => by
   obtain ⟨cs', hc, ht⟩ := hi i (by omega)
   obtain ⟨p, rfl, hB⟩ := ho _ _ _ ht
   obtain ⟨_, hcl, hat⟩ := World.cells?_some hc
   refine ⟨p, hB, fun j u hu => ?_⟩
   have hj : j < E.k := by
    rcases Nat.lt_or_ge j E.k with h | h
    ·
     exact h
    ·
     rw [List.getElem?_eq_none (by rw [E.len]; exact h)] at hu; cases hu
   rw [← Go.Deep.add_add, hat j hj, hu])
  refine ⟨xs, some a, _, by rw [hxl], ?_, by rw [hxl]; exact hl, hm, fun p hp => ?_⟩
  ·
   intro h0
   rw [E.flat_length, hxl] at h0
   have hcell : ∀ j u, (E.flat xs)[j]? = some u → w.cell? (a.add j) = some u := by
    intro j u hu
    have hjl : j < xs.length * E.k := by
     rw [← E.flat_length]
     rcases Nat.lt_or_ge j (E.flat xs).length with h | h
     ·
      exact h
     ·
      rw [List.getElem?_eq_none h] at hu; cases hu
    have hdiv : j / E.k < xs.length := Nat.div_lt_of_lt_mul (by rw [Nat.mul_comm]; exact hjl)
    have hxi : xs[j / E.k]? = some (xs[j / E.k]'hdiv) := List.getElem?_eq_getElem hdiv
    have e := E.flat_at hxi (j % E.k) (Nat.mod_lt _ hpos)
    have hdm : j / E.k * E.k + j % E.k = j := by rw [Nat.mul_comm]; exact Nat.div_add_mod j E.k
    rw [hdm, hu] at e
    have := (hx _ _ hxi).2 (j % E.k) u e.symm
    rwa [hdm] at this
   obtain ⟨ab, ao, spot⟩ := a
   have h00 : (E.flat xs)[0]? = some ((E.flat xs)[0]'(by rw [E.flat_length, hxl]; exact h0)) := List.getElem?_eq_getElem _
   have hspot : spot = none := by simpa [Addr.add] using World.cell?_spot (hcell 0 _ h00)
   subst hspot
   exact ⟨ab, ao, rfl, by simpa [Addr.add] using cell_lt (hcell 0 _ h00), fun j u hu => by have := hcell j u hu; rwa [Addr.add_lit] at this⟩
  ·
   obtain ⟨i, hi'⟩ := List.getElem?_of_mem hp
   exact (hx i p hi').1
theorem int_of_trodb {held : Bool} {fuel : Nat} {v : Value} {x : DataW H × List MemPlace} (hf : DataW.trod enc Tryz.prog w base spare held fuel 3 [v] = some x) : ∃ n : Int, v = .int .i64 n ∧ -9223372036854775808 ≤ n ∧ n ≤ 9223372036854775807 := by
 obtain ⟨n, e, _, hw⟩ := DataW.trod_int Tryz.underlying3 hf
 exact ⟨n, by simpa using e, (bounds_i64 hw).1, (bounds_i64 hw).2⟩
set_option maxRecDepth 100000 in
theorem step_of_trod {held : Bool} {fuel : Nat} {cs : List Value} {x : DataW H × List MemPlace} (hf : DataW.trod enc Tryz.prog w base (fun _ => true) held fuel 95 cs = some x) : ∃ s : St, cs = encSt.enc s := by
 have hc : Tryz.prog.cellsOf 95 = 2 := by kernel_rfl
 have c3 : Tryz.prog.cellsOf 3 = 1 := by kernel_rfl
 have cb : Tryz.prog.cellsOf 4 = 1 := by kernel_rfl
 have c22 : Tryz.prog.cellsOf 30 = 1 := by kernel_rfl
 have ck : Tryz.prog.cellsOf 32 = 4 := by kernel_rfl
 obtain ⟨xs, n, _, _, hl, hlen, hg⟩ := DataW.trod_struct Tryz.underlying95 hf
 rw [hc] at hl
 match cs, hl, xs, hlen with
 | y0 :: y1 :: [], _, [x0, x1], _ =>
  obtain ⟨f0, rfl⟩ := int_of_trod (v := y0) (x := x0) (by simpa [Value.cells, c3] using hg 0 _ rfl)
  obtain ⟨f1, rfl⟩ := bool_of_trod (v := y1) (x := x1) (by simpa [Value.cells, cb] using hg 1 _ rfl)
  exact ⟨⟨f0, f1⟩, rfl⟩
set_option maxRecDepth 100000 in
theorem end_of_trod {held : Bool} {fuel : Nat} {cs : List Value} {x : DataW H × List MemPlace} (hf : DataW.trod enc Tryz.prog w base (fun _ => true) held fuel 89 cs = some x) : ∃ s : En, cs = [.int .i64 s.edge, .int .i64 s.at_] := by
 have hc : Tryz.prog.cellsOf 89 = 2 := by kernel_rfl
 have c3 : Tryz.prog.cellsOf 3 = 1 := by kernel_rfl
 have cb : Tryz.prog.cellsOf 4 = 1 := by kernel_rfl
 have c22 : Tryz.prog.cellsOf 30 = 1 := by kernel_rfl
 have ck : Tryz.prog.cellsOf 32 = 4 := by kernel_rfl
 obtain ⟨xs, n, _, _, hl, hlen, hg⟩ := DataW.trod_struct Tryz.underlying89 hf
 rw [hc] at hl
 match cs, hl, xs, hlen with
 | y0 :: y1 :: [], _, [x0, x1], _ =>
  obtain ⟨f0, rfl⟩ := int_of_trod (v := y0) (x := x0) (by simpa [Value.cells, c3] using hg 0 _ rfl)
  obtain ⟨f1, rfl⟩ := int_of_trod (v := y1) (x := x1) (by simpa [Value.cells, c3] using hg 1 _ rfl)
  exact ⟨⟨f0, f1⟩, rfl⟩
set_option maxRecDepth 100000 in
theorem joint_of_trod {held : Bool} {fuel : Nat} {cs : List Value} {x : DataW H × List MemPlace} (hf : DataW.trod enc Tryz.prog w base (fun _ => true) held fuel 91 cs = some x) : ∃ s : Jt, cs = encJt.enc s := by
 have hc : Tryz.prog.cellsOf 91 = 4 := by kernel_rfl
 have c3 : Tryz.prog.cellsOf 3 = 1 := by kernel_rfl
 have cb : Tryz.prog.cellsOf 4 = 1 := by kernel_rfl
 have c22 : Tryz.prog.cellsOf 30 = 1 := by kernel_rfl
 have ck : Tryz.prog.cellsOf 32 = 4 := by kernel_rfl
 have ce : Tryz.prog.cellsOf 89 = 2 := by kernel_rfl
 obtain ⟨xs, n, _, _, hl, hlen, hg⟩ := DataW.trod_struct Tryz.underlying91 hf
 rw [hc] at hl
 match cs, hl, xs, hlen with
 | y0 :: y1 :: y2 :: y3 :: [], _, [x0, x1], _ =>
  obtain ⟨f0, e0⟩ := end_of_trod (cs := [y0, y1]) (x := x0) (by simpa [Value.cells, ce] using hg 0 _ rfl)
  simp only [List.cons.injEq, and_true] at e0
  obtain ⟨rfl, rfl⟩ := e0
  obtain ⟨f1, e1⟩ := end_of_trod (cs := [y2, y3]) (x := x1) (by simpa [Value.cells, ce] using hg 1 _ rfl)
  simp only [List.cons.injEq, and_true] at e1
  obtain ⟨rfl, rfl⟩ := e1
  exact ⟨⟨f0, f1⟩, rfl⟩
set_option maxRecDepth 100000 in
theorem bal_of_trod {held : Bool} {fuel : Nat} {cs : List Value} {x : DataW H × List MemPlace} (hf : DataW.trod enc Tryz.prog w base (fun _ => true) held fuel 93 cs = some x) : ∃ s : Bl, cs = encBl.enc s := by
 have hc : Tryz.prog.cellsOf 93 = 3 := by kernel_rfl
 have c3 : Tryz.prog.cellsOf 3 = 1 := by kernel_rfl
 have cb : Tryz.prog.cellsOf 4 = 1 := by kernel_rfl
 have c22 : Tryz.prog.cellsOf 30 = 1 := by kernel_rfl
 have ck : Tryz.prog.cellsOf 32 = 4 := by kernel_rfl
 obtain ⟨xs, n, _, _, hl, hlen, hg⟩ := DataW.trod_struct Tryz.underlying93 hf
 rw [hc] at hl
 match cs, hl, xs, hlen with
 | y0 :: y1 :: y2 :: [], _, [x0, x1, x2], _ =>
  obtain ⟨f0, rfl⟩ := int_of_trod (v := y0) (x := x0) (by simpa [Value.cells, c3] using hg 0 _ rfl)
  obtain ⟨f1, rfl⟩ := int_of_trod (v := y1) (x := x1) (by simpa [Value.cells, c3] using hg 1 _ rfl)
  obtain ⟨f2, rfl⟩ := int_of_trod (v := y2) (x := x2) (by simpa [Value.cells, c3] using hg 2 _ rfl)
  exact ⟨⟨f0, f1, f2⟩, rfl⟩
set_option maxRecDepth 100000 in
theorem sect_of_trod {held : Bool} {fuel : Nat} {cs : List Value} {x : DataW H × List MemPlace} (hf : DataW.trod enc Tryz.prog w base (fun _ => true) held fuel 122 cs = some x) : ∃ s : Sc, cs = encSc.enc s := by
 have hc : Tryz.prog.cellsOf 122 = 2 := by kernel_rfl
 have c3 : Tryz.prog.cellsOf 3 = 1 := by kernel_rfl
 have cb : Tryz.prog.cellsOf 4 = 1 := by kernel_rfl
 have c22 : Tryz.prog.cellsOf 30 = 1 := by kernel_rfl
 have ck : Tryz.prog.cellsOf 32 = 4 := by kernel_rfl
 obtain ⟨xs, n, _, _, hl, hlen, hg⟩ := DataW.trod_struct Tryz.underlying122 hf
 rw [hc] at hl
 match cs, hl, xs, hlen with
 | y0 :: y1 :: [], _, [x0, x1], _ =>
  obtain ⟨f0, rfl⟩ := int_of_trod (v := y0) (x := x0) (by simpa [Value.cells, c3] using hg 0 _ rfl)
  obtain ⟨f1, rfl⟩ := int_of_trod (v := y1) (x := x1) (by simpa [Value.cells, c3] using hg 1 _ rfl)
  exact ⟨⟨f0, f1⟩, rfl⟩
theorem steps_of_trod {held : Bool} {fuel : Nat} {v : Value} {x : DataW H × List MemPlace} (hf : DataW.trod enc Tryz.prog w base (fun _ => true) held fuel 39 [v] = some x) : ∃ (xs : List _) (A : Option Addr) (c : Nat), v = .slice A xs.length c ∧ RowsAt encSt w A xs ∧ xs.length ≤ c ∧ c ≤ maxLen ∧ ∀ a ∈ xs, (fun _ => True) a :=
 rows_of_trod encSt (fun _ => True) Tryz.underlying39 (by kernel_rfl) (fun _ _ _ h => (step_of_trod h).imp fun _ e => ⟨e, trivial⟩) hf
theorem sects_of_trod {held : Bool} {fuel : Nat} {v : Value} {x : DataW H × List MemPlace} (hf : DataW.trod enc Tryz.prog w base (fun _ => true) held fuel 40 [v] = some x) : ∃ (xs : List _) (A : Option Addr) (c : Nat), v = .slice A xs.length c ∧ RowsAt encSc w A xs ∧ xs.length ≤ c ∧ c ≤ maxLen ∧ ∀ a ∈ xs, (fun _ => True) a :=
 rows_of_trod encSc (fun _ => True) Tryz.underlying40 (by kernel_rfl) (fun _ _ _ h => (sect_of_trod h).imp fun _ e => ⟨e, trivial⟩) hf
theorem joints_of_trod {held : Bool} {fuel : Nat} {v : Value} {x : DataW H × List MemPlace} (hf : DataW.trod enc Tryz.prog w base (fun _ => true) held fuel 23 [v] = some x) : ∃ (xs : List _) (A : Option Addr) (c : Nat), v = .slice A xs.length c ∧ RowsAt encJt w A xs ∧ xs.length ≤ c ∧ c ≤ maxLen ∧ ∀ a ∈ xs, (fun _ => True) a :=
 rows_of_trod encJt (fun _ => True) Tryz.underlying23 (by kernel_rfl) (fun _ _ _ h => (joint_of_trod h).imp fun _ e => ⟨e, trivial⟩) hf
theorem bals_of_trod {held : Bool} {fuel : Nat} {v : Value} {x : DataW H × List MemPlace} (hf : DataW.trod enc Tryz.prog w base (fun _ => true) held fuel 24 [v] = some x) : ∃ (xs : List _) (A : Option Addr) (c : Nat), v = .slice A xs.length c ∧ RowsAt encBl w A xs ∧ xs.length ≤ c ∧ c ≤ maxLen ∧ ∀ a ∈ xs, (fun _ => True) a :=
 rows_of_trod encBl (fun _ => True) Tryz.underlying24 (by kernel_rfl) (fun _ _ _ h => (bal_of_trod h).imp fun _ e => ⟨e, trivial⟩) hf
theorem int1_of_trod {held : Bool} {fuel : Nat} {cs : List Value} {x : DataW H × List MemPlace} (hf : DataW.trod enc Tryz.prog w base spare held fuel 3 cs = some x) : ∃ n : Int, cs = encI.enc n := by
 obtain ⟨n, e, _, _⟩ := DataW.trod_int Tryz.underlying3 hf
 exact ⟨n, e⟩
theorem ints_of_trod {held : Bool} {fuel : Nat} {v : Value} {x : DataW H × List MemPlace} (hf : DataW.trod enc Tryz.prog w base (fun _ => true) held fuel 22 [v] = some x) : ∃ (xs : List _) (A : Option Addr) (c : Nat), v = .slice A xs.length c ∧ RowsAt encI w A xs ∧ xs.length ≤ c ∧ c ≤ maxLen ∧ ∀ a ∈ xs, (fun _ => True) a :=
 rows_of_trod encI (fun _ => True) Tryz.underlying22 (by kernel_rfl) (fun _ _ _ h => (int1_of_trod h).imp fun _ e => ⟨e, trivial⟩) hf
set_option maxRecDepth 100000 in
theorem route_of_trod {held : Bool} {fuel : Nat} {cs : List Value} {x : DataW H × List MemPlace} (hf : DataW.trod enc Tryz.prog w base (fun _ => true) held fuel 97 cs = some x) : ∃ s : Rt × Option Addr × Nat, cs = encRt.enc s ∧ (RowsAt encSt w s.2.1 s.1.path ∧ s.1.path.length ≤ s.2.2) := by
 have hc : Tryz.prog.cellsOf 97 = 4 := by kernel_rfl
 have c3 : Tryz.prog.cellsOf 3 = 1 := by kernel_rfl
 have cb : Tryz.prog.cellsOf 4 = 1 := by kernel_rfl
 have c22 : Tryz.prog.cellsOf 30 = 1 := by kernel_rfl
 have ck : Tryz.prog.cellsOf 32 = 4 := by kernel_rfl
 have cs1 : Tryz.prog.cellsOf 39 = 1 := by kernel_rfl
 obtain ⟨xs, n, _, _, hl, hlen, hg⟩ := DataW.trod_struct Tryz.underlying97 hf
 rw [hc] at hl
 match cs, hl, xs, hlen with
 | y0 :: y1 :: y2 :: y3 :: [], _, [x0, x1, x2, x3], _ =>
  obtain ⟨f0, rfl⟩ := int_of_trod (v := y0) (x := x0) (by simpa [Value.cells, c3] using hg 0 _ rfl)
  obtain ⟨f1, A1, r1, rfl, R1, L1, M1, Q1⟩ := steps_of_trod (v := y1) (x := x1) (by simpa [Value.cells, cs1] using hg 1 _ rfl)
  obtain ⟨f2, rfl⟩ := int_of_trod (v := y2) (x := x2) (by simpa [Value.cells, c3] using hg 2 _ rfl)
  obtain ⟨f3, rfl⟩ := int_of_trod (v := y3) (x := x3) (by simpa [Value.cells, c3] using hg 3 _ rfl)
  exact ⟨(⟨f0, f1, f2, f3⟩, A1, r1), rfl, R1, L1⟩
theorem routes_of_trod {held : Bool} {fuel : Nat} {v : Value} {x : DataW H × List MemPlace} (hf : DataW.trod enc Tryz.prog w base (fun _ => true) held fuel 25 [v] = some x) : ∃ (xs : List _) (A : Option Addr) (c : Nat), v = .slice A xs.length c ∧ RowsAt encRt w A xs ∧ xs.length ≤ c ∧ c ≤ maxLen ∧ ∀ a ∈ xs, (fun s => RowsAt encSt w s.2.1 s.1.path ∧ s.1.path.length ≤ s.2.2) a :=
 rows_of_trod encRt (fun s => RowsAt encSt w s.2.1 s.1.path ∧ s.1.path.length ≤ s.2.2) Tryz.underlying25 (by kernel_rfl) (fun _ _ _ h => route_of_trod h) hf
set_option maxRecDepth 100000 in
theorem topo_of_trod {held : Bool} {fuel : Nat} {cs : List Value} {x : DataW H × List MemPlace} (hf : DataW.trod enc Tryz.prog w base (fun _ => true) held fuel 27 cs = some x) : ∃ (t : Tp) (m : TpM), cs = m.cells.toList ∧ TpL w t m ∧ m.c1 ≤ maxLen ∧ m.c2 ≤ maxLen ∧ m.c3 ≤ maxLen ∧ m.c4 ≤ maxLen := by
 have hc : Tryz.prog.cellsOf 27 = 4 := by kernel_rfl
 have c3 : Tryz.prog.cellsOf 3 = 1 := by kernel_rfl
 have cb : Tryz.prog.cellsOf 4 = 1 := by kernel_rfl
 have c22 : Tryz.prog.cellsOf 30 = 1 := by kernel_rfl
 have ck : Tryz.prog.cellsOf 32 = 4 := by kernel_rfl
 have ci : Tryz.prog.cellsOf 22 = 1 := by kernel_rfl
 have cj : Tryz.prog.cellsOf 23 = 1 := by kernel_rfl
 have cbl : Tryz.prog.cellsOf 24 = 1 := by kernel_rfl
 have cr : Tryz.prog.cellsOf 25 = 1 := by kernel_rfl
 obtain ⟨xs, n, _, _, hl, hlen, hg⟩ := DataW.trod_struct Tryz.underlying27 hf
 rw [hc] at hl
 match cs, hl, xs, hlen with
 | y0 :: y1 :: y2 :: y3 :: [], _, [x0, x1, x2, x3], _ =>
  obtain ⟨f0, A0, r0, rfl, R0, L0, M0, Q0⟩ := ints_of_trod (v := y0) (x := x0) (by simpa [Value.cells, ci] using hg 0 _ rfl)
  obtain ⟨f1, A1, r1, rfl, R1, L1, M1, Q1⟩ := joints_of_trod (v := y1) (x := x1) (by simpa [Value.cells, cj] using hg 1 _ rfl)
  obtain ⟨f2, A2, r2, rfl, R2, L2, M2, Q2⟩ := bals_of_trod (v := y2) (x := x2) (by simpa [Value.cells, cbl] using hg 2 _ rfl)
  obtain ⟨f3, A3, r3, rfl, R3, L3, M3, Q3⟩ := routes_of_trod (v := y3) (x := x3) (by simpa [Value.cells, cr] using hg 3 _ rfl)
  exact ⟨⟨f0, f1, f2, f3.map (fun x => x.1)⟩, ⟨A0, f0.length, r0, A1, f1.length, r1, A2, f2.length, r2, A3, f3.length, r3, f3⟩, rfl, ⟨⟨R0, R1, R2, R3, rfl, fun p hp => (Q3 p hp).1⟩, rfl, rfl, rfl, List.length_map _, L0, L1, L2, L3, fun p hp => (Q3 p hp).2⟩, M0, M1, M2, M3⟩
set_option maxRecDepth 100000 in
theorem open_topo {r : Reach} {b0 : Nat} {v : Value} {d : DataW H} {p : List MemPlace} {held : Bool} (hv : Value.okWide Tryz.prog w r b0 27 v) (h : DataW.Trod enc Tryz.prog w base (fun _ => true) held 27 v d p) : ∃ s : Tp × TpM, v = .agg s.2.cells ∧ TpL w s.1 s.2 ∧ s.2.c1 ≤ maxLen ∧ s.2.c2 ≤ maxLen ∧ s.2.c3 ≤ maxLen ∧ s.2.c4 ≤ maxLen := by
 obtain ⟨cs, rfl, hsz⟩ := okWide_struct Tryz.underlying27 hv
 obtain ⟨fuel, hf⟩ := h
 obtain ⟨t, m, e, hh⟩ := topo_of_trod (cs := cs.toList) (by simpa [Value.cells] using hf)
 exact ⟨(t, m), by rw [← Array.toArray_toList (xs := cs), e], hh⟩
set_option maxRecDepth 100000 in
theorem pos_of_trod {held : Bool} {fuel : Nat} {cs : List Value} {x : DataW H × List MemPlace} (hf : DataW.trod enc Tryz.prog w base (fun _ => true) held fuel 38 cs = some x) : ∃ s : Ps, cs = [.int .i64 s.edge, .int .i64 s.at_, .bool s.rev] := by
 have hc : Tryz.prog.cellsOf 38 = 3 := by kernel_rfl
 have c3 : Tryz.prog.cellsOf 3 = 1 := by kernel_rfl
 have cb : Tryz.prog.cellsOf 4 = 1 := by kernel_rfl
 have c22 : Tryz.prog.cellsOf 30 = 1 := by kernel_rfl
 have ck : Tryz.prog.cellsOf 32 = 4 := by kernel_rfl
 obtain ⟨xs, n, _, _, hl, hlen, hg⟩ := DataW.trod_struct Tryz.underlying38 hf
 rw [hc] at hl
 match cs, hl, xs, hlen with
 | y0 :: y1 :: y2 :: [], _, [x0, x1, x2], _ =>
  obtain ⟨f0, rfl⟩ := int_of_trod (v := y0) (x := x0) (by simpa [Value.cells, c3] using hg 0 _ rfl)
  obtain ⟨f1, rfl⟩ := int_of_trod (v := y1) (x := x1) (by simpa [Value.cells, c3] using hg 1 _ rfl)
  obtain ⟨f2, rfl⟩ := bool_of_trod (v := y2) (x := x2) (by simpa [Value.cells, cb] using hg 2 _ rfl)
  exact ⟨⟨f0, f1, f2⟩, rfl⟩
set_option maxRecDepth 100000 in
theorem rules_of_trod {held : Bool} {fuel : Nat} {cs : List Value} {x : DataW H × List MemPlace} (hf : DataW.trod enc Tryz.prog w base (fun _ => true) held fuel 29 cs = some x) : ∃ s : Rl, cs = [.int .i64 s.ahead, .int .i64 s.behind, .int .i64 s.period, .int .i64 s.most, .int .i64 s.quiet, .int .i64 s.quarantine, .int .i64 s.brake, .int .i64 s.skew, .int .i64 s.lend] := by
 have hc : Tryz.prog.cellsOf 29 = 9 := by kernel_rfl
 have c3 : Tryz.prog.cellsOf 3 = 1 := by kernel_rfl
 have cb : Tryz.prog.cellsOf 4 = 1 := by kernel_rfl
 have c22 : Tryz.prog.cellsOf 30 = 1 := by kernel_rfl
 have ck : Tryz.prog.cellsOf 32 = 4 := by kernel_rfl
 obtain ⟨xs, n, _, _, hl, hlen, hg⟩ := DataW.trod_struct Tryz.underlying29 hf
 rw [hc] at hl
 match cs, hl, xs, hlen with
 | y0 :: y1 :: y2 :: y3 :: y4 :: y5 :: y6 :: y7 :: y8 :: [], _, [x0, x1, x2, x3, x4, x5, x6, x7, x8], _ =>
  obtain ⟨f0, rfl⟩ := int_of_trod (v := y0) (x := x0) (by simpa [Value.cells, c3] using hg 0 _ rfl)
  obtain ⟨f1, rfl⟩ := int_of_trod (v := y1) (x := x1) (by simpa [Value.cells, c3] using hg 1 _ rfl)
  obtain ⟨f2, rfl⟩ := int_of_trod (v := y2) (x := x2) (by simpa [Value.cells, c3] using hg 2 _ rfl)
  obtain ⟨f3, rfl⟩ := int_of_trod (v := y3) (x := x3) (by simpa [Value.cells, c3] using hg 3 _ rfl)
  obtain ⟨f4, rfl⟩ := int_of_trod (v := y4) (x := x4) (by simpa [Value.cells, c3] using hg 4 _ rfl)
  obtain ⟨f5, rfl⟩ := int_of_trod (v := y5) (x := x5) (by simpa [Value.cells, c3] using hg 5 _ rfl)
  obtain ⟨f6, rfl⟩ := int_of_trod (v := y6) (x := x6) (by simpa [Value.cells, c3] using hg 6 _ rfl)
  obtain ⟨f7, rfl⟩ := int_of_trod (v := y7) (x := x7) (by simpa [Value.cells, c3] using hg 7 _ rfl)
  obtain ⟨f8, rfl⟩ := int_of_trod (v := y8) (x := x8) (by simpa [Value.cells, c3] using hg 8 _ rfl)
  exact ⟨{ ahead := f0, behind := f1, period := f2, most := f3, quiet := f4, quarantine := f5, brake := f6, skew := f7, lend := f8 }, rfl⟩
set_option maxRecDepth 100000 in
theorem stamp_of_trod {held : Bool} {fuel : Nat} {cs : List Value} {x : DataW H × List MemPlace} (hf : DataW.trod enc Tryz.prog w base (fun _ => true) held fuel 36 cs = some x) : ∃ s : Int × Int × Int × Bool, cs = [.int .i64 s.1, .int .i64 s.2.1, .int .i64 s.2.2.1, .bool s.2.2.2] := by
 have hc : Tryz.prog.cellsOf 36 = 4 := by kernel_rfl
 have c3 : Tryz.prog.cellsOf 3 = 1 := by kernel_rfl
 have cb : Tryz.prog.cellsOf 4 = 1 := by kernel_rfl
 have c22 : Tryz.prog.cellsOf 30 = 1 := by kernel_rfl
 have ck : Tryz.prog.cellsOf 32 = 4 := by kernel_rfl
 obtain ⟨xs, n, _, _, hl, hlen, hg⟩ := DataW.trod_struct Tryz.underlying36 hf
 rw [hc] at hl
 match cs, hl, xs, hlen with
 | y0 :: y1 :: y2 :: y3 :: [], _, [x0, x1, x2, x3], _ =>
  obtain ⟨f0, rfl⟩ := int_of_trod (v := y0) (x := x0) (by simpa [Value.cells, c3] using hg 0 _ rfl)
  obtain ⟨f1, rfl⟩ := int_of_trod (v := y1) (x := x1) (by simpa [Value.cells, c3] using hg 1 _ rfl)
  obtain ⟨f2, rfl⟩ := int_of_trod (v := y2) (x := x2) (by simpa [Value.cells, c3] using hg 2 _ rfl)
  obtain ⟨f3, rfl⟩ := bool_of_trod (v := y3) (x := x3) (by simpa [Value.cells, cb] using hg 3 _ rfl)
  exact ⟨(f0, f1, f2, f3), rfl⟩
set_option maxRecDepth 100000 in
theorem ma_of_trod {held : Bool} {fuel : Nat} {cs : List Value} {x : DataW H × List MemPlace} (hf : DataW.trod enc Tryz.prog w base (fun _ => true) held fuel 42 cs = some x) : ∃ s : Ma × MaM, cs = [.int .i64 s.1.ref, .bool s.1.rev, .slice s.2.A1 s.2.n1 s.2.c1, .slice s.2.A2 s.2.n2 s.2.c2, .int .i64 s.1.gap] ∧ MaL w s.1 s.2 := by
 have hc : Tryz.prog.cellsOf 42 = 5 := by kernel_rfl
 have c3 : Tryz.prog.cellsOf 3 = 1 := by kernel_rfl
 have cb : Tryz.prog.cellsOf 4 = 1 := by kernel_rfl
 have c22 : Tryz.prog.cellsOf 30 = 1 := by kernel_rfl
 have ck : Tryz.prog.cellsOf 32 = 4 := by kernel_rfl
 have cs1 : Tryz.prog.cellsOf 39 = 1 := by kernel_rfl
 have cs2 : Tryz.prog.cellsOf 40 = 1 := by kernel_rfl
 obtain ⟨xs, n, _, _, hl, hlen, hg⟩ := DataW.trod_struct Tryz.underlying42 hf
 rw [hc] at hl
 match cs, hl, xs, hlen with
 | y0 :: y1 :: y2 :: y3 :: y4 :: [], _, [x0, x1, x2, x3, x4], _ =>
  obtain ⟨f0, rfl⟩ := int_of_trod (v := y0) (x := x0) (by simpa [Value.cells, c3] using hg 0 _ rfl)
  obtain ⟨f1, rfl⟩ := bool_of_trod (v := y1) (x := x1) (by simpa [Value.cells, cb] using hg 1 _ rfl)
  obtain ⟨f2, A2, r2, rfl, R2, L2, M2, Q2⟩ := steps_of_trod (v := y2) (x := x2) (by simpa [Value.cells, cs1] using hg 2 _ rfl)
  obtain ⟨f3, A3, r3, rfl, R3, L3, M3, Q3⟩ := sects_of_trod (v := y3) (x := x3) (by simpa [Value.cells, cs2] using hg 3 _ rfl)
  obtain ⟨f4, rfl⟩ := int_of_trod (v := y4) (x := x4) (by simpa [Value.cells, c3] using hg 4 _ rfl)
  exact ⟨(⟨f0, f1, f2, f3, f4⟩, ⟨A2, f2.length, r2, A3, f3.length, r3⟩), rfl, ⟨R2, R3, rfl, rfl, L2, L3⟩⟩
set_option maxRecDepth 100000 in
theorem peer_of_trod {held : Bool} {fuel : Nat} {cs : List Value} {x : DataW H × List MemPlace} (hf : DataW.trod enc Tryz.prog w base (fun _ => true) held fuel 34 cs = some x) : ∃ (s t : Int) (q : Pr19), cs = [.int .i64 s, .int .i64 t, q32 q.k0, q32 q.k1, q32 q.k2, q32 q.k3, .int .i64 q.state, q32 q.a, q32 q.b, q32 q.j0, q32 q.j1, q32 q.j2, q32 q.j3, .bool q.half, q32 q.a2, q32 q.b2] := by
 have hc : Tryz.prog.cellsOf 34 = 16 := by kernel_rfl
 have c3 : Tryz.prog.cellsOf 3 = 1 := by kernel_rfl
 have cb : Tryz.prog.cellsOf 4 = 1 := by kernel_rfl
 have c22 : Tryz.prog.cellsOf 30 = 1 := by kernel_rfl
 have ck : Tryz.prog.cellsOf 32 = 4 := by kernel_rfl
 obtain ⟨xs, n, _, _, hl, hlen, hg⟩ := DataW.trod_struct Tryz.underlying34 hf
 rw [hc] at hl
 match cs, hl, xs, hlen with
 | y0 :: y1 :: y2 :: y3 :: y4 :: y5 :: y6 :: y7 :: y8 :: y9 :: y10 :: y11 :: y12 :: y13 :: y14 :: y15 :: [], _, [x0, x1, x2, x3, x4, x5, x6, x7, x8, x9], _ =>
  obtain ⟨f0, rfl⟩ := int_of_trod (v := y0) (x := x0) (by simpa [Value.cells, c3] using hg 0 _ rfl)
  obtain ⟨f1, rfl⟩ := int_of_trod (v := y1) (x := x1) (by simpa [Value.cells, c3] using hg 1 _ rfl)
  obtain ⟨f2, e2⟩ := key_of_trod (cs := [y2, y3, y4, y5]) (x := x2) rfl (by simpa [Value.cells, ck] using hg 2 _ rfl)
  simp only [List.cons.injEq, and_true] at e2
  obtain ⟨rfl, rfl, rfl, rfl⟩ := e2
  obtain ⟨f3, rfl⟩ := int_of_trod (v := y6) (x := x3) (by simpa [Value.cells, c3] using hg 3 _ rfl)
  obtain ⟨f4, rfl⟩ := trod_q32 (v := y7) (x := x4) (by simpa [Value.cells, c22] using hg 4 _ rfl)
  obtain ⟨f5, rfl⟩ := trod_q32 (v := y8) (x := x5) (by simpa [Value.cells, c22] using hg 5 _ rfl)
  obtain ⟨f6, e6⟩ := key_of_trod (cs := [y9, y10, y11, y12]) (x := x6) rfl (by simpa [Value.cells, ck] using hg 6 _ rfl)
  simp only [List.cons.injEq, and_true] at e6
  obtain ⟨rfl, rfl, rfl, rfl⟩ := e6
  obtain ⟨f7, rfl⟩ := bool_of_trod (v := y13) (x := x7) (by simpa [Value.cells, cb] using hg 7 _ rfl)
  obtain ⟨f8, rfl⟩ := trod_q32 (v := y14) (x := x8) (by simpa [Value.cells, c22] using hg 8 _ rfl)
  obtain ⟨f9, rfl⟩ := trod_q32 (v := y15) (x := x9) (by simpa [Value.cells, c22] using hg 9 _ rfl)
  exact ⟨f0, f1, ⟨f2.k0, f2.k1, f2.k2, f2.k3, f3, f4, f5, f6.k0, f6.k1, f6.k2, f6.k3, f7, f8, f9⟩, rfl⟩
set_option maxRecDepth 100000 in
theorem train_of_trod {held : Bool} {fuel : Nat} {cs : List Value} {x : DataW H × List MemPlace} (hf : DataW.trod enc Tryz.prog w base (fun _ => true) held fuel 44 cs = some x) : ∃ s : Tr × TrM, cs = (trC s.1 s.2).toList ∧ TrL w s.1 s.2 := by
 have hc : Tryz.prog.cellsOf 44 = 48 := by kernel_rfl
 have c3 : Tryz.prog.cellsOf 3 = 1 := by kernel_rfl
 have cb : Tryz.prog.cellsOf 4 = 1 := by kernel_rfl
 have c22 : Tryz.prog.cellsOf 30 = 1 := by kernel_rfl
 have ck : Tryz.prog.cellsOf 32 = 4 := by kernel_rfl
 have cru : Tryz.prog.cellsOf 29 = 9 := by kernel_rfl
 have cpe : Tryz.prog.cellsOf 34 = 16 := by kernel_rfl
 have cst : Tryz.prog.cellsOf 36 = 4 := by kernel_rfl
 have cps : Tryz.prog.cellsOf 38 = 3 := by kernel_rfl
 have cma : Tryz.prog.cellsOf 42 = 5 := by kernel_rfl
 have ci : Tryz.prog.cellsOf 22 = 1 := by kernel_rfl
 obtain ⟨xs, n, _, _, hl, hlen, hg⟩ := DataW.trod_struct Tryz.underlying44 hf
 rw [hc] at hl
 match cs, hl, xs, hlen with
 | y0 :: y1 :: y2 :: y3 :: y4 :: y5 :: y6 :: y7 :: y8 :: y9 :: y10 :: y11 :: y12 :: y13 :: y14 :: y15 :: y16 :: y17 :: y18 :: y19 :: y20 :: y21 :: y22 :: y23 :: y24 :: y25 :: y26 :: y27 :: y28 :: y29 :: y30 :: y31 :: y32 :: y33 :: y34 :: y35 :: y36 :: y37 :: y38 :: y39 :: y40 :: y41 :: y42 :: y43 :: y44 :: y45 :: y46 :: y47 :: [], _, [x0, x1, x2, x3, x4, x5, x6, x7, x8, x9, x10, x11, x12, x13, x14, x15], _ =>
  obtain ⟨f0, rfl⟩ := int_of_trod (v := y0) (x := x0) (by simpa [Value.cells, c3] using hg 0 _ rfl)
  obtain ⟨f1, rfl⟩ := int_of_trod (v := y1) (x := x1) (by simpa [Value.cells, c3] using hg 1 _ rfl)
  obtain ⟨f2, e2⟩ := rules_of_trod (cs := [y2, y3, y4, y5, y6, y7, y8, y9, y10]) (x := x2) (by simpa [Value.cells, cru] using hg 2 _ rfl)
  simp only [List.cons.injEq, and_true] at e2
  obtain ⟨rfl, rfl, rfl, rfl, rfl, rfl, rfl, rfl, rfl⟩ := e2
  obtain ⟨f3, g3, q3, e3⟩ := peer_of_trod (cs := [y11, y12, y13, y14, y15, y16, y17, y18, y19, y20, y21, y22, y23, y24, y25, y26]) (x := x3) (by simpa [Value.cells, cpe] using hg 3 _ rfl)
  simp only [List.cons.injEq, and_true] at e3
  obtain ⟨rfl, rfl, rfl, rfl, rfl, rfl, rfl, rfl, rfl, rfl, rfl, rfl, rfl, rfl, rfl, rfl⟩ := e3
  obtain ⟨f4, rfl⟩ := trod_q32 (v := y27) (x := x4) (by simpa [Value.cells, c22] using hg 4 _ rfl)
  obtain ⟨f5, e5⟩ := stamp_of_trod (cs := [y28, y29, y30, y31]) (x := x5) (by simpa [Value.cells, cst] using hg 5 _ rfl)
  simp only [List.cons.injEq, and_true] at e5
  obtain ⟨rfl, rfl, rfl, rfl⟩ := e5
  obtain ⟨f6, rfl, lo6, hi6⟩ := int_of_trodb (v := y32) (x := x6) (by simpa [Value.cells, c3] using hg 6 _ rfl)
  obtain ⟨f7, rfl⟩ := bool_of_trod (v := y33) (x := x7) (by simpa [Value.cells, cb] using hg 7 _ rfl)
  obtain ⟨f8, e8⟩ := pos_of_trod (cs := [y34, y35, y36]) (x := x8) (by simpa [Value.cells, cps] using hg 8 _ rfl)
  simp only [List.cons.injEq, and_true] at e8
  obtain ⟨rfl, rfl, rfl⟩ := e8
  obtain ⟨f9, rfl⟩ := int_of_trod (v := y37) (x := x9) (by simpa [Value.cells, c3] using hg 9 _ rfl)
  obtain ⟨f10, rfl⟩ := int_of_trod (v := y38) (x := x10) (by simpa [Value.cells, c3] using hg 10 _ rfl)
  obtain ⟨f11, rfl⟩ := bool_of_trod (v := y39) (x := x11) (by simpa [Value.cells, cb] using hg 11 _ rfl)
  obtain ⟨f12, e12, HM⟩ := ma_of_trod (cs := [y40, y41, y42, y43, y44]) (x := x12) (by simpa [Value.cells, cma] using hg 12 _ rfl)
  simp only [List.cons.injEq, and_true] at e12
  obtain ⟨rfl, rfl, rfl, rfl, rfl⟩ := e12
  obtain ⟨f13, rfl⟩ := int_of_trod (v := y45) (x := x13) (by simpa [Value.cells, c3] using hg 13 _ rfl)
  obtain ⟨f14, rfl⟩ := bool_of_trod (v := y46) (x := x14) (by simpa [Value.cells, cb] using hg 14 _ rfl)
  obtain ⟨f15, A15, r15, rfl, R15, L15, M15, Q15⟩ := ints_of_trod (v := y47) (x := x15) (by simpa [Value.cells, ci] using hg 15 _ rfl)
  exact ⟨({ id := f0, len := f1, rl := f2, side := f3, train := g3, sl := f5.1, sa := f5.2.1, sb := f5.2.2.1, free := f5.2.2.2, last := f6, on := f7, pos := f8, ref := f9, past := f10, rev := f11, ma := f12.1, at_ := f13, held := f14, stops := f15 }, ⟨q3, f4, f12.2, A15, f15.length, r15⟩), rfl, ⟨HM, R15, rfl, L15, lo6, hi6⟩⟩
set_option maxRecDepth 100000 in
theorem open_train {r : Reach} {b0 : Nat} {v : Value} {d : DataW H} {p : List MemPlace} {held : Bool} (hv : Value.okWide Tryz.prog w r b0 44 v) (h : DataW.Trod enc Tryz.prog w base (fun _ => true) held 44 v d p) : ∃ s : Tr × TrM, v = .agg (trC s.1 s.2) ∧ TrL w s.1 s.2 := by
 obtain ⟨cs, rfl, hsz⟩ := okWide_struct Tryz.underlying44 hv
 obtain ⟨fuel, hf⟩ := h
 obtain ⟨s, e, hh⟩ := train_of_trod (cs := cs.toList) (by simpa [Value.cells] using hf)
 exact ⟨s, by rw [← Array.toArray_toList (xs := cs), e], hh⟩
end
end Go.Proofs.YtkaggddmhjifjaaGreatDoor
namespace Go.Proofs.YtkaggddmhjifjaaGreatDoor
open Go.RowKit Go.Shelf
theorem joinT_length : ∀ (l out : List Sp), (joinT out l).length ≤ out.length + l.length
 | [], out => by rw [joinT.eq_def]; simp
 | s :: l, [] => by
  rw [joinT]
  have := joinT_length l [s]
  simp only [List.length_cons, List.length_nil] at this ⊢
  omega
 | s :: l, o :: out => by
  rw [joinT]
  split
  ·
   have := joinT_length l (⟨o.edge, o.lo, max o.hi s.hi⟩ :: out)
   simp only [List.length_cons] at this ⊢
   omega
  ·
   have := joinT_length l (s :: o :: out)
   simp only [List.length_cons] at this ⊢
   omega
theorem normT_length (l : List Sp) : (normT l).length ≤ l.length := by
 unfold normT
 rw [List.length_reverse]
 have h1 := joinT_length ((l.filter someT).foldr putSp []) []
 have h2 := (foldSp_perm (l.filter someT)).length_eq
 have h3 := List.length_filter_le someT l
 simp only [List.length_nil] at h1
 omega
theorem pieces_length (t : Tp) (fr to_ : Int) : ∀ (l : List St) (a : Int), (piecesT t fr to_ l a).length = l.length
 | [], a => rfl
 | s :: l, a => by
  rw [piecesT, List.length_cons, List.length_cons, pieces_length t fr to_ l]
theorem auth_length {t : Tp} {x : Tr} {now : Int} (hp : x.ma.path.length ≤ 100) : (authX t x now).length ≤ 100 := by
 unfold authX
 split
 ·
  simp
 ·
  split
  ·
   simp
  ·
   split
   ·
    simp
   ·
    unfold extentT
    split
    ·
     simp
    ·
     split
     ·
      simp
     ·
      unfold spanT
      split
      ·
       refine Nat.le_trans (normT_length _) ?_
       rw [pieces_length]
       exact hp
      ·
       simp
end Go.Proofs.YtkaggddmhjifjaaGreatDoor
