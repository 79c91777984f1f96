/- Texts in one: BoardMove Auth. -/
import Derived.Test.YtkaggddmhjifjaaGreatDoorK15
import Derived.Test.YtkaggddmhjifjaaGreatDoorK16
import Derived.Test.YtkaggddmhjifjaaGreatDoorK12
set_option linter.unusedSimpArgs false
set_option linter.unusedVariables false
namespace Go.Proofs.YtkaggddmhjifjaaGreatDoor
open Go.RowKit Go.Shelf
theorem enter_moved1 : ∀ args w, (callFunc 91 args).run Tryz.prog w = .ok (.enter 91 args) w := enters_of Tryz.func91 (by kernel_rfl) (by rfl)
theorem moved1_k (x : St) (e : Int) (g : Nat) (w : World) (hA : w.cell? ⟨g, 1, none⟩ = some (.int .i64 e)) (hb : g < w.heap.size) : Calls Tryz.prog 91 #[.agg (encSt.enc x).toArray, .pointer (some ⟨g, 0, none⟩)] w fun r w' => r = .returned (.bool (decide (x.edge = e))) ∧ Below w.heap.size w w' := by
 obtain ⟨x1, x2⟩ := x
 simp only [encSt]
 have hO : Own w _ [_] := (Own.nil w).alloc 95 #[.int .i64 x1, .bool x2] _ rfl
 have hcl := hO.b0.cell
 have hA2 := (hO.below.cell (p := ⟨g, 1, none⟩) hb).trans hA
 go_enter Tryz.func91, Tryz.ntmps91
 go_wp2_with fail
 go_ret
 refine ⟨?_, hO.below⟩
 by_cases h : x1 = e <;> simp [h]
theorem stp_cell {S : Foot} {w W : World} {g : Nat} {t : TypeId} {cs : Array Value} (hk : Stp S w W) (hb : Blk w g t cs) (i : Nat) (h1 : (g, none) ∉ S) (h2 : (g, some i) ∉ S) {v : Value} (hv : cs[i]? = some v) : W.cell? ⟨g, i, none⟩ = some v := by
 obtain ⟨cs', hb', hs, he⟩ := hk.shape g t cs hb
 rw [hb'.cell i, he h1 i h2, hv]
theorem Own.put1 {w W : World} {x0 : Bk} {L : List Bk} {g : Nat} {t : TypeId} {old : Array Value} (hO : Own w W (x0 :: (g, t, old) :: L)) (i : Nat) (v : Value) : Own w (W.setCell ⟨g, i, none⟩ v) (x0 :: (g, t, old.setIfInBounds i v) :: L) :=
 Own.with (L1 := [x0]) hO (hO.below.setCell (p := ⟨g, i, none⟩) (Own.lo (L1 := [x0]) hO) v) (hO.b1.set_ i v) (fun k hk => Below.heap_setCell W ⟨g, i, none⟩ v k hk)
def trS (x : Tr) (p : Ps) (rf : Int) (rv : Bool) (ps : Int) : Tr := { x with pos := p, ref := rf, rev := rv, past := ps }
theorem trC_pos (x : Tr) (m : TrM) (p : Ps) : putAt (trC x m) 34 [.int .i64 p.edge, .int .i64 p.at_, .bool p.rev] = trC (trS x p x.ref x.rev x.past) m := rfl
theorem trC_past (x : Tr) (m : TrM) (p : Ps) (rf : Int) (rv : Bool) (ps n : Int) : (trC (trS x p rf rv ps) m).setIfInBounds 38 (.int .i64 n) = trC (trS x p rf rv n) m := rfl
theorem trS38 (x : Tr) (m : TrM) (p : Ps) (rf : Int) (rv : Bool) (ps : Int) : (trC (trS x p rf rv ps) m)[38]? = some (.int .i64 ps) := rfl
theorem trS42 (x : Tr) (m : TrM) (p : Ps) (rf : Int) (rv : Bool) (ps : Int) : (trC (trS x p rf rv ps) m)[42]? = some (.slice m.v.A1 m.v.n1 m.v.c1) := rfl
theorem move_join {w W : World} {g : Nat} {x : Tr} {m : TrM} {q : Ps} {r0 p0 r p : Int} {v0 rv : Bool} (hk : Stp [(g, some 37), (g, some 39), (g, some 38)] w W) (hb : Blk w g 44 (trC (trS x q r0 v0 p0) m)) (h37 : AtCell g 48 37 44 (.int .i64 r) undef W) (h39 : AtCell g 48 39 44 (.bool rv) undef W) (h38 : AtCell g 48 38 44 (.int .i64 p) undef W) : Blk W g 44 (trC (trS x q r rv p) m) := by
 have e : trC (trS x q r rv p) m = (((trC (trS x q r0 v0 p0) m).setIfInBounds 37 (.int .i64 r)).setIfInBounds 39 (.bool rv)).setIfInBounds 38 (.int .i64 p) := rfl
 refine blk_join (n := 48) hk hb _ rfl (by simp) ?_
 intro i hi
 by_cases a : i = 37
 ·
  subst a; exact .inr ⟨_, rfl, h37⟩
 ·
  by_cases b : i = 39
  ·
   subst b; exact .inr ⟨_, rfl, h39⟩
  ·
   by_cases c : i = 38
   ·
    subst c; exact .inr ⟨_, rfl, h38⟩
   ·
    refine .inl ⟨?_, by simp [a, b, c]⟩
    rw [e]
    simp [Array.getElem?_setIfInBounds, Ne.symm a, Ne.symm b, Ne.symm c]
theorem met_drop {t : Tp} {x : Tr} {fr to_ : Int} {k : Nat} {g : Bl} {r : Int × Int × Bool × Int} (h : t.bals[k]? = some g) : metX t x fr to_ (t.bals.drop k) r = match x.ma.path.find? (fun s => decide (s.edge = g.edge)) with
 | none => metX t x fr to_ (t.bals.drop (k + 1)) r
 | some s => if r.1 < (onT t x.ma.path ⟨g.edge, g.at_, s.rev⟩).1 ∧ (onT t x.ma.path ⟨g.edge, g.at_, s.rev⟩).1 ≤ to_ then metX t x fr to_ (t.bals.drop (k + 1)) ((onT t x.ma.path ⟨g.edge, g.at_, s.rev⟩).1, g.id, s.rev, to_ - (onT t x.ma.path ⟨g.edge, g.at_, s.rev⟩).1) else metX t x fr to_ (t.bals.drop (k + 1)) r := by
 rw [drop_cons h, metX]
 cases x.ma.path.find? (fun s => decide (s.edge = g.edge)) <;> rfl
theorem front_back {t : Tp} {x : Tr} {a : Int} (h : frontX t x = some a) : (backR t x.ma).2 = true ∧ backX t x.ma = some (backR t x.ma).1 := by
 unfold frontX at h
 split at h
 ·
  unfold frontM at h
  have hb := back_is t x.ma
  cases hc : (backR t x.ma).2 with
  | true =>
   rw [hc, if_pos rfl] at hb
   exact ⟨rfl, hb⟩
  | false =>
   rw [hc] at hb
   simp only [Bool.false_eq_true, if_false] at hb
   rw [hb] at h
   cases h
 ·
  cases h
theorem reach_small {t : Tp} {m : Ma} (h : mayP t m = true) (age : Int) : 0 ≤ reachP m.sects age 0 ∧ reachP m.sects age 0 ≤ 100000000 := by
 obtain ⟨r0, r1⟩ := reach_last h age
 obtain ⟨p1, p2, _, _, _, p6, _, _, z, hz, p9⟩ := may_parts h
 obtain ⟨l1, l2, l3⟩ := left_ok p1 hz
 have hok := len_ok l1
 have hl := lens_nonneg (check_edges p1) m.path hok.2.2.1
 rw [len_is (check_edges p1) l1] at l2
 omega
def movedR (t : Tp) (x : Tr) (n now : Int) : Tr := if movedE t x n now = 0 then movedX t x n else x
set_option maxRecDepth 8000 in
set_option maxHeartbeats 16000000 in
theorem moved_m {w : World} {t : Tp} {m : TpM} (h : TpIs w t m) (x : Tr) (xm : TrM) (hx : TrIs w x xm) (n now : Int) (hnow : clockP now = true) : Calls Tryz.prog 42 #[.agg m.cells, .agg (trC x xm), .int .i64 n, .int .i64 now] w fun e w' => e = .returned (.tuple #[.agg (trC (movedR t x n now) xm), .int .i64 (movedE t x n now)]) ∧ Below w.heap.size w w' := by
 have hO : Own w _ [_, _, _] := Own.start3 w 27 44 44 m.cells (trC x xm) #[.int .i64 0, .int .i64 0, .int .i64 0, .int .i64 0, .int .i64 0, .int .i64 0, .int .i64 0, .int .i64 0, .int .i64 0, .int .i64 0, .int .i64 0, .int .i64 0, .int .i64 0, .int .u32 0, .int .u32 0, .int .u32 0, .int .u32 0, .int .i64 0, .int .u32 0, .int .u32 0, .int .u32 0, .int .u32 0, .int .u32 0, .int .u32 0, .bool false, .int .u32 0, .int .u32 0, .int .u32 0, .int .i64 0, .int .i64 0, .int .i64 0, .bool false, .int .i64 0, .bool false, .int .i64 0, .int .i64 0, .bool false, .int .i64 0, .int .i64 0, .bool false, .int .i64 0, .bool false, .slice none 0 0, .slice none 0 0, .int .i64 0, .int .i64 0, .bool false, .slice none 0 0]
 have hcl := hO.b0.cell
 have hcx := hO.b1.cell
 have hfx := fun W (hW : Below w.heap.size w W) => frontX_m (h.below hW) x xm (hx.below hW)
 have hre := fun W (hW : Below w.heap.size w W) => reach_m x.ma xm.v (now - x.at_) W (hx.ma.below hW)
 have hE : movedE t x n now = match frontX t x with
  | none => 6
  | some a => if x.stops ≠ [] then 6 else if n < 1 then 1 else if reachP x.ma.sects (now - x.at_) 0 - a < n then 141 else 0 := rfl
 have hR : movedR t x n now = if movedE t x n now = 0 then movedX t x n else x := rfl
 have he3 := hx.e3
 have hst : x.stops ≠ [] ↔ 0 < xm.n3 := by
  rw [← he3]
  exact ⟨List.length_pos_iff.2, List.length_pos_iff.1⟩
 simp only [hst] at hE
 clear hst he3
 unfold clockP at hnow
 simp only [Bool.and_eq_true, decide_eq_true_eq] at hnow
 obtain ⟨hn0, hn1⟩ := hnow
 generalize movedE t x n now = me at *
 generalize movedR t x n now = mr at *
 have t0 := tr0 x xm
 have t1 := tr1 x xm
 have t2 := tr2 x xm
 have t3 := tr3 x xm
 have t4 := tr4 x xm
 have t5 := tr5 x xm
 have t6 := tr6 x xm
 have t7 := tr7 x xm
 have t8 := tr8 x xm
 have t9 := tr9 x xm
 have t10 := tr10 x xm
 have t11 := tr11 x xm
 have t12 := tr12 x xm
 have t28 := tr28 x xm
 have t29 := tr29 x xm
 have t30 := tr30 x xm
 have t31 := tr31 x xm
 have t32 := tr32 x xm
 have t33 := tr33 x xm
 have t34 := tr34 x xm
 have t35 := tr35 x xm
 have t36 := tr36 x xm
 have t37 := tr37 x xm
 have t38 := tr38 x xm
 have t39 := tr39 x xm
 have t40 := tr40 x xm
 have t41 := tr41 x xm
 have t42 := tr42 x xm
 have t43 := tr43 x xm
 have t44 := tr44 x xm
 have t45 := tr45 x xm
 have t46 := tr46 x xm
 have t47 := tr47 x xm
 cases hfr : frontX t x with
 | none =>
  rw [hfr] at hE hfx
  obtain rfl : me = 6 := hE
  obtain rfl : x = mr := hR.symm
  clear hR
  clear hfr
  unfold frontV at hfx
  unfold maC at hre
  unfold TpM.cells at *
  go_enter Tryz.func42, Tryz.ntmps42
  go_wp2_with (first
   |((with_reducible refine own_loadg1 hO ?_ _ rfl rfl _ Tryz.underlying44 rfl (trC_info _ xm) ?_); (· first | rfl | (simp [Region.wanted, yielded]; done)))
   |(go_at_call 6; (with_reducible refine (hfx _ hO.below).mono ?_); rintro e w1 ⟨rfl, hb1⟩; replace hO := hO.grow hb1; have hcl1 := hO.b0.cell; have hcx1 := hO.b1.cell)
   |((with_reducible refine own_row2 (trC x xm) hO rfl _ _ rfl rfl rfl (trC_info _ xm) rfl (trC_ones _ xm) ?_); intro wR hOR hszR hkR; replace hO := hOR; clear hOR)
   |(go_at_call 25; (with_reducible refine (hre _ hO.below).mono ?_); rintro e w2 ⟨rfl, hb2⟩; replace hO := hO.grow hb2; have hcl2 := hO.b0.cell; have hcx2 := hO.b1.cell))
  exact bodyPost_ret (results_ct1 Tryz.results42 _ _ _ _ _ _ rfl rfl hO.b2 Tryz.underlying44 rfl (trC_info _ xm)) rfl ⟨by first | rfl | simp, hO.below⟩
 | some a =>
  obtain ⟨a0, may1, held1, mayp1⟩ := front_nonneg hfr
  obtain ⟨hbk2, hbk⟩ := front_back hfr
  have hMX := (mayX_iff t x).1 may1
  obtain ⟨r0, r1⟩ := reach_small mayp1 (now - x.at_)
  have hat : a ≤ 100000000 := by
   unfold frontX at hfr
   rw [if_pos ⟨may1, held1⟩] at hfr
   unfold frontM at hfr
   rw [hbk] at hfr
   simp only at hfr
   split at hfr
   ·
    simp at hfr
    have := on_bound t x.ma.path x.pos
    have := back_bound t x.ma
    omega
   ·
    cases hfr
  have HF := Lib.hid hfr
  have HB := Lib.hid hbk
  have HB2 := Lib.hid hbk2
  obtain ⟨_, _, _, _, _, _, _, _, _, p0, p1, q0, q1⟩ := hMX
  rw [hfr] at hE hfx
  simp only at hE
  clear hfr may1 held1 hbk hbk2
  generalize hrr : reachP x.ma.sects (now - x.at_) 0 = rr at *
  clear hrr
  unfold frontV at hfx
  by_cases h1 : 0 < xm.n3
  ·
   rw [if_pos h1] at hE
   subst hE
   obtain rfl : x = mr := hR.symm
   clear hR
   have f1 : decide (0 < (xm.n3 : Int)) = true := by simpa using h1
   clear HF HB HB2
   unfold maC at hre
   unfold TpM.cells at *
   go_enter Tryz.func42, Tryz.ntmps42
   go_wp2_with (first
    |((with_reducible refine own_loadg1 hO ?_ _ rfl rfl _ Tryz.underlying44 rfl (trC_info _ xm) ?_); (· first | rfl | (simp [Region.wanted, yielded]; done)))
    |(go_at_call 6; (with_reducible refine (hfx _ hO.below).mono ?_); rintro e w1 ⟨rfl, hb1⟩; replace hO := hO.grow hb1; have hcl1 := hO.b0.cell; have hcx1 := hO.b1.cell)
    |((with_reducible refine own_row2 (trC x xm) hO rfl _ _ rfl rfl rfl (trC_info _ xm) rfl (trC_ones _ xm) ?_); intro wR hOR hszR hkR; replace hO := hOR; clear hOR)
    |(go_at_call 25; (with_reducible refine (hre _ hO.below).mono ?_); rintro e w2 ⟨rfl, hb2⟩; replace hO := hO.grow hb2; have hcl2 := hO.b0.cell; have hcx2 := hO.b1.cell))
   exact bodyPost_ret (results_ct1 Tryz.results42 _ _ _ _ _ _ rfl rfl hO.b2 Tryz.underlying44 rfl (trC_info _ xm)) rfl ⟨by first | rfl | simp, hO.below⟩
  rw [if_neg h1] at hE
  have f1 : decide (0 < (xm.n3 : Int)) = false := by simpa using h1
  by_cases h2 : n < 1
  ·
   rw [if_pos h2] at hE
   subst hE
   obtain rfl : x = mr := hR.symm
   clear hR
   have f2 : decide (n < 1) = true := by simpa using h2
   clear HF HB HB2
   unfold maC at hre
   unfold TpM.cells at *
   go_enter Tryz.func42, Tryz.ntmps42
   go_wp2_with (first
    |((with_reducible refine own_loadg1 hO ?_ _ rfl rfl _ Tryz.underlying44 rfl (trC_info _ xm) ?_); (· first | rfl | (simp [Region.wanted, yielded]; done)))
    |(go_at_call 6; (with_reducible refine (hfx _ hO.below).mono ?_); rintro e w1 ⟨rfl, hb1⟩; replace hO := hO.grow hb1; have hcl1 := hO.b0.cell; have hcx1 := hO.b1.cell)
    |((with_reducible refine own_row2 (trC x xm) hO rfl _ _ rfl rfl rfl (trC_info _ xm) rfl (trC_ones _ xm) ?_); intro wR hOR hszR hkR; replace hO := hOR; clear hOR)
    |(go_at_call 25; (with_reducible refine (hre _ hO.below).mono ?_); rintro e w2 ⟨rfl, hb2⟩; replace hO := hO.grow hb2; have hcl2 := hO.b0.cell; have hcx2 := hO.b1.cell))
   exact bodyPost_ret (results_ct1 Tryz.results42 _ _ _ _ _ _ rfl rfl hO.b2 Tryz.underlying44 rfl (trC_info _ xm)) rfl ⟨by first | rfl | simp, hO.below⟩
  rw [if_neg h2] at hE
  have f2 : decide (n < 1) = false := by simpa using h2
  by_cases h3 : rr - a < n
  ·
   rw [if_pos h3] at hE
   subst hE
   obtain rfl : x = mr := hR.symm
   clear hR
   have f3 : decide (rr - a < n) = true := by simpa using h3
   clear HF HB HB2
   unfold maC at hre
   unfold TpM.cells at *
   go_enter Tryz.func42, Tryz.ntmps42
   go_wp2_with (first
    |((with_reducible refine own_loadg1 hO ?_ _ rfl rfl _ Tryz.underlying44 rfl (trC_info _ xm) ?_); (· first | rfl | (simp [Region.wanted, yielded]; done)))
    |(go_at_call 6; (with_reducible refine (hfx _ hO.below).mono ?_); rintro e w1 ⟨rfl, hb1⟩; replace hO := hO.grow hb1; have hcl1 := hO.b0.cell; have hcx1 := hO.b1.cell)
    |((with_reducible refine own_row2 (trC x xm) hO rfl _ _ rfl rfl rfl (trC_info _ xm) rfl (trC_ones _ xm) ?_); intro wR hOR hszR hkR; replace hO := hOR; clear hOR)
    |(go_at_call 25; (with_reducible refine (hre _ hO.below).mono ?_); rintro e w2 ⟨rfl, hb2⟩; replace hO := hO.grow hb2; have hcl2 := hO.b0.cell; have hcx2 := hO.b1.cell))
   exact bodyPost_ret (results_ct1 Tryz.results42 _ _ _ _ _ _ rfl rfl hO.b2 Tryz.underlying44 rfl (trC_info _ xm)) rfl ⟨by first | rfl | simp, hO.below⟩
  rw [if_neg h3] at hE
  subst hE
  rw [if_pos rfl] at hR
  have f3 : decide (rr - a < n) = false := by simpa using h3
  obtain ⟨b0, b1⟩ := back_bound t x.ma
  have hback := fun W (hW : Below w.heap.size w W) => back_m (h.below hW) x.ma xm.v (hx.ma.below hW)
  rw [HB2.out] at hback
  have hMX : mr = (let r := metX t x ((backR t x.ma).1 + a) ((backR t x.ma).1 + a + n) t.bals ((backR t x.ma).1 + a, x.ref, x.rev, x.past + n); { x with pos := offP t x.ma.path ((backR t x.ma).1 + a + n), ref := r.2.1, rev := r.2.2.1, past := r.2.2.2 }) := by
   rw [hR]
   unfold movedX
   rw [HF.out, HB.out]
  clear hR HF HB HB2
  generalize (backR t x.ma).1 = b at *
  have hoff := fun W (hW : Below w.heap.size w W) => off_m (h.below hW) xm.v.A1 xm.v.n1 xm.v.c1 x.ma.path (b + a + n) (hx.ma.path.below hW) hx.ma.e1 hx.ma.l1
  generalize offP t x.ma.path (b + a + n) = op at *
  generalize offE t x.ma.path (b + a + n) = oe at *
  obtain ⟨o1, o2, o3⟩ := op
  have HMX := Lib.hid hMX
  clear hMX
  have hl3 := h.l3
  unfold maC at hre hback
  unfold TpM.cells at *
  go_enter Tryz.func42, Tryz.ntmps42
  go_wp2_with (first
   |((with_reducible refine own_loadg1 hO ?_ _ rfl rfl _ Tryz.underlying44 rfl (trC_info _ xm) ?_); (· first | rfl | (simp [Region.wanted, yielded]; done)))
   |(go_at_call 6; (with_reducible refine (hfx _ hO.below).mono ?_); rintro e w1 ⟨rfl, hb1⟩; replace hO := hO.grow hb1; have hcl1 := hO.b0.cell; have hcx1 := hO.b1.cell)
   |(go_at_call 25; (with_reducible refine (hre _ hO.below).mono ?_); rintro e w2 ⟨rfl, hb2⟩; replace hO := hO.grow hb2; have hcl2 := hO.b0.cell; have hcx2 := hO.b1.cell)
   |(go_at_call 55; (with_reducible refine (hback _ hO.below).mono ?_); rintro e w3 ⟨rfl, hb3⟩; replace hO := hO.grow hb3; have hcl3 := hO.b0.cell; have hcx3 := hO.b1.cell)
   |(go_at_call 89; (with_reducible refine (hoff _ hO.below).mono ?_); rintro e w4 ⟨rfl, hb4⟩; replace hO := hO.grow hb4)
   |((with_reducible refine own_mid1 34 (#[.int .i64 o1, .int .i64 o2, .bool o3]) hO rfl 38 _ _ rfl rfl rfl (by kernel_rfl) ?_ ?_ ?_); (· show 37 ≤ 48; decide); (· simp [Value.oneCell']); intro wR hOR hszR hkR; replace hO := hOR; clear hOR hszR hkR; rw [trC_pos x xm ⟨o1, o2, o3⟩] at hO; have hcx5 := hO.b1.cell; have s38 := trS38 x xm ⟨o1, o2, o3⟩ x.ref x.rev x.past; have hfz5 := hO.b1.frozen; have hcl5 := hO.b0.cell))
  replace hO := Own.put1 hO 38 (.int .i64 (x.past + n))
  rw [trC_past x xm ⟨o1, o2, o3⟩ x.ref x.rev x.past (x.past + n)] at hO
  clear hcl hcx hcl1 hcx1 hcl2 hcx2 hcl3 hcx3 hcx5 s38 hfz5 hcl5 hfx hre hback hoff f1 f2 f3
  go_loopw [16, 87] (fun be i wr => ∃ (k : Nat) (best rf : Int) (rv : Bool) (ps : Int), i = .int .i64 k ∧ k ≤ m.n3 ∧ be = .int .i64 best ∧ Hid (metX t x (b + a) (b + a + n) t.bals (b + a, x.ref, x.rev, x.past + n) = metX t x (b + a) (b + a + n) (t.bals.drop k) (best, rf, rv, ps)) ∧ Own w wr [(w.heap.size, 27, #[.slice m.A1 m.n1 m.c1, .slice m.A2 m.n2 m.c2, .slice m.A3 m.n3 m.c3, .slice m.A4 m.n4 m.c4]), (w.heap.size + 1, 44, trC (trS x ⟨o1, o2, o3⟩ rf rv ps) xm), (w.heap.size + 1 + 1, 44, #[.int .i64 0, .int .i64 0, .int .i64 0, .int .i64 0, .int .i64 0, .int .i64 0, .int .i64 0, .int .i64 0, .int .i64 0, .int .i64 0, .int .i64 0, .int .i64 0, .int .i64 0, .int .u32 0, .int .u32 0, .int .u32 0, .int .u32 0, .int .i64 0, .int .u32 0, .int .u32 0, .int .u32 0, .int .u32 0, .int .u32 0, .int .u32 0, .bool false, .int .u32 0, .int .u32 0, .int .u32 0, .int .i64 0, .int .i64 0, .int .i64 0, .bool false, .int .i64 0, .bool false, .int .i64 0, .int .i64 0, .bool false, .int .i64 0, .int .i64 0, .bool false, .int .i64 0, .bool false, .slice none 0 0, .slice none 0 0, .int .i64 0, .int .i64 0, .bool false, .slice none 0 0])]) (fun _ i _ => m.n3 - (intOf i).toNat)
  case atStart => exact ⟨0, b + a, x.ref, x.rev, x.past + n, rfl, Nat.zero_le _, rfl, Lib.hid (by simp), hO⟩
  case round =>
   clear hO
   obtain ⟨k, best, rf, rv, ps, rfl, hk, rfl, hap, hO⟩ := hrel
   have hcl := hO.b0.cell
   have hcx := hO.b1.cell
   have hlt3 := hO.b2.lt
   have s42 := trS42 x xm ⟨o1, o2, o3⟩ rf rv ps
   by_cases hlt : k < m.n3
   ·
    obtain ⟨g, hg⟩ := get_some h.e3 hlt
    obtain ⟨gg, goff, hA3, hgg, a0', a1', a2'⟩ := h.lies.bals.bl hg
    have kk0 := (hO.below.cell (p := ⟨gg, goff + k * 3, none⟩) hgg).trans a0'
    have kk1 := (hO.below.cell (p := ⟨gg, goff + k * 3 + 1, none⟩) hgg).trans a1'
    have kk2 := (hO.below.cell (p := ⟨gg, goff + k * 3 + 2, none⟩) hgg).trans a2'
    have hstep := met_drop (t := t) (x := x) (fr := b + a) (to_ := b + a + n) (r := (best, rf, rv, ps)) hg
    rw [← hap.out] at hstep
    obtain ⟨g1, g2, g3⟩ := g
    simp only at kk0 kk1 kk2 hstep
    have hO1 := Own.new3 hO 93 #[.int .i64 g1, .int .i64 g2, .int .i64 g3]
    have hcl1 := hO1.b0.cell
    have hcx1 := hO1.b1.cell
    have hcg1 := hO1.b3.cell
    have hidx := idxSt_k 91 enter_moved1 #[.pointer (some ⟨wr.heap.size, 0, none⟩)] (fun s => decide (s.edge = g2)) xm.v.A1 xm.v.n1 xm.v.c1 x.ma.path _
     (fun W' y hW' => (moved1_k y g2 wr.heap.size W' ((hW'.cell (p := ⟨wr.heap.size, 1, none⟩) hO1.b3.lt).trans (hcg1 1)) (Nat.lt_of_lt_of_le hO1.b3.lt hW'.size)).mono fun _ _ h => ⟨h.1, below_then hW' h.2⟩) (hx.ma.path.below hO1.below) hx.ma.e1 (by have := hx.ma.l1; omega)
    unfold Lib.idxBy at hidx
    clear a0' a1' a2' hg
    simp only [hA3] at hO hO1 hcl hcl1 hidx ⊢
    rcases idx_find' (fun s : St => decide (s.edge = g2)) x.ma.path 0 with ⟨j, j1, j2, j3⟩ | ⟨j1, j2⟩
    ·
     obtain ⟨s, hs⟩ := Option.isSome_iff_exists.1 j3
     rw [hs] at hstep j2
     rw [j1, Nat.zero_add] at hidx
     obtain ⟨gp, poff, hP, hgp, c0, c1⟩ := hx.ma.path.st j2
     have hjn : j < xm.v.n1 := by rw [← hx.ma.e1]; exact (List.getElem?_eq_some_iff.1 j2).1
     have hjc : xm.v.n1 ≤ 100 := hx.ma.l1
     have kp := fun W (hW : Below w.heap.size w W) => (hW.cell (p := ⟨gp, poff + j * 2 + 1, none⟩) hgp).trans c1
     have hon := fun W (hW : Below w.heap.size w W) => on_m (h.below hW) xm.v.A1 xm.v.n1 xm.v.c1 x.ma.path ⟨g2, g3, s.rev⟩ (hx.ma.path.below hW) hx.ma.e1 hx.ma.l1
     obtain ⟨ob0, ob1⟩ := on_bound t x.ma.path ⟨g2, g3, s.rev⟩
     obtain ⟨s1, s2⟩ := s
     simp only at hstep hon kp ob0 ob1
     generalize (onT t x.ma.path ⟨g2, g3, s2⟩).1 = o at *
     generalize (onT t x.ma.path ⟨g2, g3, s2⟩).2 = oe2 at *
     simp only [TpM.cells, hA3, hP] at hon hidx s42 ⊢
     clear j1 j2 j3 hs c0 c1
     go_wp2_with (first
      |(go_at_call 90; (with_reducible refine hidx.mono ?_); rintro e w5 ⟨rfl, hb5⟩; replace hO := hO1.grow hb5))
     clear hcl hcx hcl1 hcx1 hcg1 hidx hO1
     apply wp_region_lexs []
     case hFl => intro u; simp only [List.map, fill, Act.put, List.setIfInBounds_toArray, List.set_cons_zero, List.set_cons_succ, Nat.reduceAdd, Nat.zero_add]; rfl
     case hm => kernel_rfl
     case hB => kernel_rfl
     case hap => kernel_rfl
     repeat (first | (apply LexS.is; · (intro u w' hk hd; simp [Waited, Region.binds, Is] at hd; refine lookedT_want ?_ ?_; (· (first | rfl | (simp [Region.wanted, yielded, hd]; done))); intro K hK; have hB2 := hO.below.trans (hk.below hO.below.size (by intro k o h; simp at h)); have hca := (hk.blk hO.b0 (by intro o h; simp at h)).cell; have hcb := (hk.blk hO.b1 (by intro o h; simp at h)).cell; have hcg := (hk.blk hO.b3 (by intro o h; simp at h)).cell; have kp1 := kp _ hB2; go_wp2_with (go_at_call 56; (with_reducible refine (hon _ hB2).mono ?_); rintro e w3 ⟨rfl, hb3⟩); (try simp only [hd] at hK); refine hK _ _ ?_ rfl; first | exact Stp.refl _ _ | exact Stp.of_below hb3 _)))
     refine LexS.nil ?_ ?_
     ·
      simp [W2.fit, Apart2]
     intro u w7 hk hd
     simp only [List.nil_append, List.cons_append] at hd
     have hl20 := hd 20 _ rfl
     simp only [Is] at hl20
     clear hd
     simp only [hl20]
     have hBz := hk.below (Nat.le_refl _) (by intro k o h; simp at h)
     replace hO := hO.grow hBz
     clear hk hBz hl20
     have hgn : w.heap.size + 1 + 1 < wr.heap.size := hlt3
     have hcb := hO.b1.cell
     have hcg := hO.b3.cell
     by_cases c1 : best < o
     ·
      have f1 : decide (best < o) = true := by simpa using c1
      by_cases c2 : o ≤ b + a + n
      ·
       have f2 : decide (o ≤ b + a + n) = true := by simpa using c2
       have HS := Lib.hid (hstep.trans (if_pos ⟨c1, c2⟩))
       clear hstep hap
       go_wp2_with fail
       clear hcb hcg
       apply wp_region_lexs [(w.heap.size + 1, some 37), (w.heap.size + 1, some 39), (w.heap.size + 1, some 38)]
       case hFl =>
        intro u
        simp only [List.map, fill, Act.put, List.setIfInBounds_toArray, List.set_cons_zero, List.set_cons_succ, Nat.reduceAdd, Nat.zero_add]
        rfl
       case hm => kernel_rfl
       case hB => kernel_rfl
       case hap => kernel_rfl
       repeat (first
        |(
          apply LexS.is
          ·
           (
           intro u w' hk hd
           simp [Waited, Region.binds, Is] at hd
           refine lookedT_want ?_ ?_
           ·
            first
            | rfl
            |(simp [Region.wanted, yielded, hd]; done)
           intro K hK
           have hB2 := hO.below.trans (hk.below hO.below.size (by intro k o h; simp at h; omega)); have hca := (hk.blk hO.b0 (by intro o h; simp at h; try omega)).cell; have hcg := (hk.blk hO.b3 (by intro o h; simp at h; have := hO.b1.lt; have := hgn; omega)).cell; have kp1 := kp _ hB2; have hc42 := stp_cell hk hO.b1 42 (by simp) (by simp) (trS42 x xm ⟨o1, o2, o3⟩ rf rv ps)
           go_wp2_with (fail)
           try simp only [hd] at hK
           refine hK _ _ ?_ rfl
           first | exact Stp.refl _ _ | exact Stp.of_below hb3 _))
        |(
          refine LexS.cell (w.heap.size + 1) 48 37 44 _ (.int .i64 g1) (by simp) hO.b1 rfl (by decide) _ _ _ rfl (by kernel_rfl) (by simp [Value.oneCell', q32, q64]) ?_ ?_
          ·
           (
           intro u w' hk hd
           simp [Waited, Region.binds, Is] at hd
           refine ⟨?_, ?_, ?_⟩
           ·
            first
            | rfl
            |(simp [Region.wanted, yielded, hd]; done)
           ·
            first
            | rfl
            |(simp [Act.eval, hd]; done)
           ·
            first
            | rfl
            |(simp [Act.eval, hd]; done)))
        |(
          refine LexS.cell (w.heap.size + 1) 48 39 44 _ (.bool s2) (by simp) hO.b1 rfl (by decide) _ _ _ rfl (by kernel_rfl) (by simp [Value.oneCell', q32, q64]) ?_ ?_
          ·
           (
           intro u w' hk hd
           simp [Waited, Region.binds, Is] at hd
           refine ⟨?_, ?_, ?_⟩
           ·
            first
            | rfl
            |(simp [Region.wanted, yielded, hd]; done)
           ·
            first
            | rfl
            |(simp [Act.eval, hd]; done)
           ·
            first
            | rfl
            |(simp [Act.eval, hd]; done)))
        |(
          refine LexS.cell (w.heap.size + 1) 48 38 44 _ (.int .i64 (b + a + n - o)) (by simp) hO.b1 rfl (by decide) _ _ _ rfl (by kernel_rfl) (by simp [Value.oneCell', q32, q64]) ?_ ?_
          ·
           (
           intro u w' hk hd
           simp [Waited, Region.binds, Is] at hd
           refine ⟨?_, ?_, ?_⟩
           ·
            first
            | rfl
            |(simp [Region.wanted, yielded, hd]; done)
           ·
            first
            | rfl
            |(simp [Act.eval, hd]; done)
           ·
            first
            | rfl
            |(simp [Act.eval, hd]; done))))
       refine LexS.nil ?_ ?_
       ·
        simp [W2.fit, Apart2]
       intro u w7 hk hd
       simp only [List.nil_append, List.cons_append] at hd
       have hl13 := hd 13 _ rfl
       have hc37 := hd 15 _ rfl
       have hc39 := hd 17 _ rfl
       have hc38 := hd 19 _ rfl
       simp only [Is] at hl13
       simp only at hc37 hc39 hc38
       clear hd
       have hjo := move_join hk hO.b1 hc37 hc39 hc38
       have hO3 : Own w w7 [(w.heap.size, 27, #[.slice m.A1 m.n1 m.c1, .slice m.A2 m.n2 m.c2, .slice (some ⟨gg, goff, none⟩) m.n3 m.c3, .slice m.A4 m.n4 m.c4]), (w.heap.size + 1, 44, trC (trS x ⟨o1, o2, o3⟩ g1 s2 (b + a + n - o)) xm), (w.heap.size + 1 + 1, 44, #[.int .i64 0, .int .i64 0, .int .i64 0, .int .i64 0, .int .i64 0, .int .i64 0, .int .i64 0, .int .i64 0, .int .i64 0, .int .i64 0, .int .i64 0, .int .i64 0, .int .i64 0, .int .u32 0, .int .u32 0, .int .u32 0, .int .u32 0, .int .i64 0, .int .u32 0, .int .u32 0, .int .u32 0, .int .u32 0, .int .u32 0, .int .u32 0, .bool false, .int .u32 0, .int .u32 0, .int .u32 0, .int .i64 0, .int .i64 0, .int .i64 0, .bool false, .int .i64 0, .bool false, .int .i64 0, .int .i64 0, .bool false, .int .i64 0, .int .i64 0, .bool false, .int .i64 0, .bool false, .slice none 0 0, .slice none 0 0, .int .i64 0, .int .i64 0, .bool false, .slice none 0 0])] := by
        refine ⟨hO.below.trans (hk.below hO.below.size (by intro k o h; simp at h; omega)), fun y hy => ?_, by simp; omega⟩
        simp at hy
        rcases hy with rfl | rfl | rfl
        ·
         exact ⟨Nat.le_refl _, hk.blk hO.b0 (by intro o h; simp at h; try omega)⟩
        ·
         exact ⟨by simp, hjo⟩
        ·
         exact ⟨by simp; omega, hk.blk hO.b2 (by intro o h; simp at h; try omega)⟩
       clear hjo hc37 hc39 hc38 hk
       simp only [hl13]
       go_wp2_with fail
       go_roundw
       case rel => exact ⟨k + 1, o, g1, s2, b + a + n - o, by go_num, by omega, rfl, HS, hO3⟩
       case measure => simp [intOf]; omega
      ·
       have f2 : decide (o ≤ b + a + n) = false := by simpa using c2
       have HS := Lib.hid (hstep.trans (if_neg (fun hh => c2 hh.2)))
       clear hstep hap
       go_wp2_with fail
       go_roundw
       case rel => exact ⟨k + 1, best, rf, rv, ps, by go_num, by omega, rfl, HS, ⟨hO.below, fun x hx => hO.blk x (by simp at hx; rcases hx with rfl | rfl | rfl <;> simp), by simp; omega⟩⟩
       case measure => simp [intOf]; omega
     ·
      have f1 : decide (best < o) = false := by simpa using c1
      have HS := Lib.hid (hstep.trans (if_neg (fun hh => c1 hh.1)))
      clear hstep hap
      go_wp2_with fail
      go_roundw
      case rel => exact ⟨k + 1, best, rf, rv, ps, by go_num, by omega, rfl, HS, ⟨hO.below, fun x hx => hO.blk x (by simp at hx; rcases hx with rfl | rfl | rfl <;> simp), by simp; omega⟩⟩
      case measure => simp [intOf]; omega
    ·
     rw [j2] at hstep
     rw [j1] at hidx
     have HS := Lib.hid hstep
     clear hstep hap j1 j2
     go_wp2_with (first
      |(go_at_call 90; (with_reducible refine hidx.mono ?_); rintro e w5 ⟨rfl, hb5⟩; replace hO := hO1.grow hb5))
     go_roundw
     case rel => exact ⟨k + 1, best, rf, rv, ps, by go_num, by omega, rfl, HS, ⟨hO.below, fun x hx => hO.blk x (by simp at hx; rcases hx with rfl | rfl | rfl <;> simp), by simp; omega⟩⟩
     case measure => simp [intOf]; omega
   ·
    obtain rfl : k = m.n3 := by omega
    have hap' := hap.out
    rw [List.drop_of_length_le (by rw [h.e3]; exact Nat.le_refl _)] at hap'
    have hmr : mr = trS x ⟨o1, o2, o3⟩ rf rv ps := by
     have h5 := HMX.out
     rw [hap'] at h5
     exact h5
    subst hmr
    clear hap hap'
    go_wp2_with (first
     |((with_reducible refine own_loadg1 hO ?_ _ rfl rfl _ Tryz.underlying44 rfl (trC_info _ xm) ?_); (· first | rfl | (simp [Region.wanted, yielded]; done)))
     |((with_reducible refine own_row2 (trC (trS x ⟨o1, o2, o3⟩ rf rv ps) xm) hO rfl _ _ rfl rfl rfl (trC_info _ xm) rfl (trC_ones _ xm) ?_); intro wR hOR hszR hkR; replace hO := hOR; clear hOR))
    exact bodyPost_ret (results_ct1 Tryz.results42 _ _ _ _ _ _ rfl rfl hO.b2 Tryz.underlying44 rfl (trC_info _ xm)) rfl ⟨rfl, hO.below⟩
open Go.RowKit Go.Shelf
set_option maxRecDepth 8000 in
set_option maxHeartbeats 8000000 in
theorem auth_k {w : World} {t : Tp} {m : TpM} (h : TpIs w t m) (x : Tr) (xm : TrM) (hx : TrIs w x xm) (now : Int) : Calls Tryz.prog 9 #[.agg m.cells, .agg (trC x xm), .int .i64 now] w fun e w' => ∃ A' c', e = .returned (.slice A' (authX t x now).length c') ∧ RowsAt encSp w' A' (authX t x now) ∧ Below w.heap.size w w' := by
 have hO : Own w _ [_, _] := Own.start2 w 27 44 m.cells (trC x xm)
 have hcl := hO.b0.cell
 have hcx := hO.b1.cell
 have hfx := fun W (hW : Below w.heap.size w W) => frontX_m (h.below hW) x xm (hx.below hW)
 have hre := fun W (hW : Below w.heap.size w W) => reach_m x.ma xm.v (now - x.at_) W (hx.ma.below hW)
 have hA : authX t x now = match frontX t x with
  | none => []
  | some n => if x.stops ≠ [] ∨ clockP now = false then [] else if reachP x.ma.sects (now - x.at_) 0 ≤ n then [] else extentT t x.ma n (reachP x.ma.sects (now - x.at_) 0) := rfl
 have hst : x.stops ≠ [] ↔ 0 < xm.n3 := by
  rw [← hx.e3]
  exact ⟨List.length_pos_iff.2, List.length_pos_iff.1⟩
 simp only [hst] at hA
 clear hst
 unfold clockP at hA
 generalize authX t x now = au at *
 have t0 := tr0 x xm
 have t1 := tr1 x xm
 have t2 := tr2 x xm
 have t3 := tr3 x xm
 have t4 := tr4 x xm
 have t5 := tr5 x xm
 have t6 := tr6 x xm
 have t7 := tr7 x xm
 have t8 := tr8 x xm
 have t9 := tr9 x xm
 have t10 := tr10 x xm
 have t11 := tr11 x xm
 have t12 := tr12 x xm
 have t28 := tr28 x xm
 have t29 := tr29 x xm
 have t30 := tr30 x xm
 have t31 := tr31 x xm
 have t32 := tr32 x xm
 have t33 := tr33 x xm
 have t34 := tr34 x xm
 have t35 := tr35 x xm
 have t36 := tr36 x xm
 have t37 := tr37 x xm
 have t38 := tr38 x xm
 have t39 := tr39 x xm
 have t40 := tr40 x xm
 have t41 := tr41 x xm
 have t42 := tr42 x xm
 have t43 := tr43 x xm
 have t44 := tr44 x xm
 have t45 := tr45 x xm
 have t46 := tr46 x xm
 have t47 := tr47 x xm
 cases hfr : frontX t x with
 | none =>
  rw [hfr] at hA hfx
  obtain rfl : au = [] := hA
  clear hfr
  unfold frontV at hfx
  unfold maC at hre
  unfold TpM.cells at *
  go_enter Tryz.func9, Tryz.ntmps9
  go_wp2_with (first
   |((with_reducible refine own_loadg1 hO ?_ _ rfl rfl _ Tryz.underlying44 rfl (trC_info _ xm) ?_); (· first | rfl | (simp [Region.wanted, yielded]; done)))
   |(go_at_call 6; (with_reducible refine (hfx _ hO.below).mono ?_); rintro e w1 ⟨rfl, hb1⟩; replace hO := hO.grow hb1; have hcl1 := hO.b0.cell; have hcx1 := hO.b1.cell)
   |(go_at_call 25; (with_reducible refine (hre _ hO.below).mono ?_); rintro e w2 ⟨rfl, hb2⟩; replace hO := hO.grow hb2; have hcl2 := hO.b0.cell; have hcx2 := hO.b1.cell))
  go_ret
  exact ⟨none, 0, rfl, RowsAt.nil _ _, hO.below⟩
 | some n =>
  obtain ⟨n0, may1, held1, mayp1⟩ := front_nonneg hfr
  obtain ⟨r0, r1⟩ := reach_last mayp1 (now - x.at_)
  have hgap := (may_ok mayp1).2.2.1
  obtain ⟨_, _, _, _, _, _, _, _, _, _, _, q0, q1⟩ := (mayX_iff t x).1 may1
  have hex := fun W (hW : Below w.heap.size w W) (hle : n < reachP x.ma.sects (now - x.at_) 0) => extent_k (h.below hW) x.ma xm.v (hx.ma.below hW) mayp1 n (reachP x.ma.sects (now - x.at_) 0) n0 (by omega) (by omega)
  rw [hfr] at hA hfx
  simp only at hA
  clear hfr may1 held1 mayp1
  generalize reachP x.ma.sects (now - x.at_) 0 = rr at *
  unfold frontV at hfx
  by_cases h1 : 0 < xm.n3
  ·
   rw [if_pos (.inl h1)] at hA
   subst hA
   have f1 : decide (0 < (xm.n3 : Int)) = true := by simpa using h1
   clear hex
   unfold maC at hre
   unfold TpM.cells at *
   go_enter Tryz.func9, Tryz.ntmps9
   go_wp2_with (first
    |((with_reducible refine own_loadg1 hO ?_ _ rfl rfl _ Tryz.underlying44 rfl (trC_info _ xm) ?_); (· first | rfl | (simp [Region.wanted, yielded]; done)))
    |(go_at_call 6; (with_reducible refine (hfx _ hO.below).mono ?_); rintro e w1 ⟨rfl, hb1⟩; replace hO := hO.grow hb1; have hcl1 := hO.b0.cell; have hcx1 := hO.b1.cell)
    |(go_at_call 25; (with_reducible refine (hre _ hO.below).mono ?_); rintro e w2 ⟨rfl, hb2⟩; replace hO := hO.grow hb2; have hcl2 := hO.b0.cell; have hcx2 := hO.b1.cell))
   go_ret
   exact ⟨none, 0, rfl, RowsAt.nil _ _, hO.below⟩
  have f1 : decide (0 < (xm.n3 : Int)) = false := by simpa using h1
  by_cases h2 : now < 0
  ·
   rw [if_pos (.inr (by simp; omega))] at hA
   subst hA
   have f2 : decide (now < 0) = true := by simpa using h2
   clear hex
   unfold maC at hre
   unfold TpM.cells at *
   go_enter Tryz.func9, Tryz.ntmps9
   go_wp2_with (first
    |((with_reducible refine own_loadg1 hO ?_ _ rfl rfl _ Tryz.underlying44 rfl (trC_info _ xm) ?_); (· first | rfl | (simp [Region.wanted, yielded]; done)))
    |(go_at_call 6; (with_reducible refine (hfx _ hO.below).mono ?_); rintro e w1 ⟨rfl, hb1⟩; replace hO := hO.grow hb1; have hcl1 := hO.b0.cell; have hcx1 := hO.b1.cell)
    |(go_at_call 25; (with_reducible refine (hre _ hO.below).mono ?_); rintro e w2 ⟨rfl, hb2⟩; replace hO := hO.grow hb2; have hcl2 := hO.b0.cell; have hcx2 := hO.b1.cell))
   go_ret
   exact ⟨none, 0, rfl, RowsAt.nil _ _, hO.below⟩
  have f2 : decide (now < 0) = false := by simpa using h2
  by_cases h3 : 268435456 < now
  ·
   rw [if_pos (.inr (by simp; omega))] at hA
   subst hA
   have f3 : decide (268435456 < now) = true := by simpa using h3
   clear hex
   unfold maC at hre
   unfold TpM.cells at *
   go_enter Tryz.func9, Tryz.ntmps9
   go_wp2_with (first
    |((with_reducible refine own_loadg1 hO ?_ _ rfl rfl _ Tryz.underlying44 rfl (trC_info _ xm) ?_); (· first | rfl | (simp [Region.wanted, yielded]; done)))
    |(go_at_call 6; (with_reducible refine (hfx _ hO.below).mono ?_); rintro e w1 ⟨rfl, hb1⟩; replace hO := hO.grow hb1; have hcl1 := hO.b0.cell; have hcx1 := hO.b1.cell)
    |(go_at_call 25; (with_reducible refine (hre _ hO.below).mono ?_); rintro e w2 ⟨rfl, hb2⟩; replace hO := hO.grow hb2; have hcl2 := hO.b0.cell; have hcx2 := hO.b1.cell))
   go_ret
   exact ⟨none, 0, rfl, RowsAt.nil _ _, hO.below⟩
  have f3 : decide (268435456 < now) = false := by simpa using h3
  rw [if_neg (by simp; omega)] at hA
  by_cases h4 : rr ≤ n
  ·
   rw [if_pos h4] at hA
   subst hA
   have f4 : decide (rr ≤ n) = true := by simpa using h4
   clear hex
   unfold maC at hre
   unfold TpM.cells at *
   go_enter Tryz.func9, Tryz.ntmps9
   go_wp2_with (first
    |((with_reducible refine own_loadg1 hO ?_ _ rfl rfl _ Tryz.underlying44 rfl (trC_info _ xm) ?_); (· first | rfl | (simp [Region.wanted, yielded]; done)))
    |(go_at_call 6; (with_reducible refine (hfx _ hO.below).mono ?_); rintro e w1 ⟨rfl, hb1⟩; replace hO := hO.grow hb1; have hcl1 := hO.b0.cell; have hcx1 := hO.b1.cell)
    |(go_at_call 25; (with_reducible refine (hre _ hO.below).mono ?_); rintro e w2 ⟨rfl, hb2⟩; replace hO := hO.grow hb2; have hcl2 := hO.b0.cell; have hcx2 := hO.b1.cell))
   go_ret
   exact ⟨none, 0, rfl, RowsAt.nil _ _, hO.below⟩
  have f4 : decide (rr ≤ n) = false := by simpa using h4
  rw [if_neg h4] at hA
  rw [← hA] at hex
  replace hex := fun W (hW : Below w.heap.size w W) => hex W hW (by omega)
  clear hA
  unfold maC at hre hex
  unfold TpM.cells at *
  go_enter Tryz.func9, Tryz.ntmps9
  go_wp2_with (first
   |((with_reducible refine own_loadg1 hO ?_ _ rfl rfl _ Tryz.underlying44 rfl (trC_info _ xm) ?_); (· first | rfl | (simp [Region.wanted, yielded]; done)))
   |(go_at_call 6; (with_reducible refine (hfx _ hO.below).mono ?_); rintro e w1 ⟨rfl, hb1⟩; replace hO := hO.grow hb1; have hcl1 := hO.b0.cell; have hcx1 := hO.b1.cell)
   |(go_at_call 25; (with_reducible refine (hre _ hO.below).mono ?_); rintro e w2 ⟨rfl, hb2⟩; replace hO := hO.grow hb2; have hcl2 := hO.b0.cell; have hcx2 := hO.b1.cell)
   |(go_at_call 26; (with_reducible refine (hex _ hO.below).mono ?_); rintro e w3 ⟨A9, c9, rfl, hr9, hb3⟩; replace hO := hO.grow hb3))
  go_ret
  exact ⟨A9, c9, rfl, hr9, hO.below⟩
end Go.Proofs.YtkaggddmhjifjaaGreatDoor
