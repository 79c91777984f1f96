/- Texts in one: DocFront DocRep. -/
import Derived.Test.YtkaggddmhjifjaaGreatDoorK40
import Derived.Test.YtkaggddmhjifjaaGreatDoorK33
import Derived.Test.YtkaggddmhjifjaaGreatDoorK17
import Derived.Test.YtkaggddmhjifjaaGreatDoorK36
import Derived.Test.YtkaggddmhjifjaaGreatDoorK14
import Derived.Test.YtkaggddmhjifjaaGreatDoorK13
set_option linter.unusedSimpArgs false
set_option linter.unusedVariables false
namespace Go.Proofs.YtkaggddmhjifjaaGreatDoor
open Go.RowKit Go.Shelf
set_option maxRecDepth 8000 in
set_option maxHeartbeats 4000000 in
theorem rfront_m {w : World} {t : Tp} {m : TpM} (h : TpIs w t m) (x : Tr) (xm : TrM) (hx : TrIs w x xm) : Calls Tryz.prog 7 #[.agg m.cells, .agg (trC x xm)] w fun e w' => e = .returned (frontV (frontX t x)) ∧ Below w.heap.size w w' := by
 have hO : Own w _ [_, _] := Own.start2 w 27 44 m.cells (trC x xm)
 have hcl := hO.b0.cell
 have hcx := hO.b1.cell
 have hma := fun W (hW : Below w.heap.size w W) => rmay19_m (h.below hW) x xm (hx.below hW)
 have hfr := fun W (hW : Below w.heap.size w W) (hm : mayP t x.ma = true) => ralong_m (h.below hW) x.ma xm.v (hx.ma.below hW) hm x.pos
 have hr : frontX t x = if mayX t x = true ∧ x.held = true then frontM t x.ma x.pos else none := rfl
 have hmp : mayX t x = true → x.held = true → mayP t x.ma = true := fun h1 h2 => ((mayX_iff t x).1 h1).1.2.2.2.2.2.1 h2
 generalize frontX t x = fx at *
 generalize mayX t x = mx at *
 generalize frontM t x.ma x.pos = fm at *
 have t0 := tr0 x xm
 have t1 := tr1 x xm
 have t2 := tr2 x xm
 have t3 := tr3 x xm
 have t4 := tr4 x xm
 have t5 := tr5 x xm
 have t6 := tr6 x xm
 have t7 := tr7 x xm
 have t8 := tr8 x xm
 have t9 := tr9 x xm
 have t10 := tr10 x xm
 have t11 := tr11 x xm
 have t12 := tr12 x xm
 have t28 := tr28 x xm
 have t29 := tr29 x xm
 have t30 := tr30 x xm
 have t31 := tr31 x xm
 have t32 := tr32 x xm
 have t33 := tr33 x xm
 have t34 := tr34 x xm
 have t35 := tr35 x xm
 have t36 := tr36 x xm
 have t37 := tr37 x xm
 have t38 := tr38 x xm
 have t39 := tr39 x xm
 have t40 := tr40 x xm
 have t41 := tr41 x xm
 have t42 := tr42 x xm
 have t43 := tr43 x xm
 have t44 := tr44 x xm
 have t45 := tr45 x xm
 have t46 := tr46 x xm
 have t47 := tr47 x xm
 unfold maC at hfr
 unfold TpM.cells at *
 obtain ⟨hd, hhd⟩ : ∃ b, b = x.held := ⟨_, rfl⟩
 rw [← hhd] at t46 hr hmp
 have HD := Lib.hid hhd
 clear hhd
 cases mx with
 | false =>
  obtain rfl : fx = none := hr
  clear hmp hfr
  unfold frontV
  go_enter Tryz.func7, Tryz.ntmps7
  go_wp2_with (
   (first
    |((with_reducible refine own_loadg1 hO ?_ _ rfl rfl _ Tryz.underlying44 rfl (trC_info x xm) ?_); (· first | rfl | (simp [Region.wanted, yielded]; done)))
    |(go_at_call 23; (with_reducible refine (hma _ hO.below).mono ?_); rintro e w1 ⟨rfl, hb1⟩; replace hO := hO.grow hb1; have hcl1 := hO.b0.cell; have hcx1 := hO.b1.cell))
   )
  go_ret2
  exact ⟨rfl, hO.below⟩
 | true =>
  cases hd with
  | false =>
   obtain rfl : fx = none := by rw [hr]; simp
   clear hmp hfr
   try clear hr
   unfold frontV
   go_enter Tryz.func7, Tryz.ntmps7
   go_wp2_with (
    (first
     |((with_reducible refine own_loadg1 hO ?_ _ rfl rfl _ Tryz.underlying44 rfl (trC_info x xm) ?_); (· first | rfl | (simp [Region.wanted, yielded]; done)))
     |(go_at_call 23; (with_reducible refine (hma _ hO.below).mono ?_); rintro e w1 ⟨rfl, hb1⟩; replace hO := hO.grow hb1; have hcl1 := hO.b0.cell; have hcx1 := hO.b1.cell))
    )
   go_ret2
   exact ⟨rfl, hO.below⟩
  | true =>
   obtain rfl : fx = fm := by rw [hr]; simp
   replace hfr := fun W hW => hfr W hW (hmp rfl rfl)
   clear hmp
   try clear hr
   cases fx with
   | none =>
    unfold frontV at *
    go_enter Tryz.func7, Tryz.ntmps7
    go_wp2_with (first
     |((with_reducible refine own_loadg1 hO ?_ _ rfl rfl _ Tryz.underlying44 rfl (trC_info x xm) ?_); (· first | rfl | (simp [Region.wanted, yielded]; done)))
     |(go_at_call 23; (with_reducible refine (hma _ hO.below).mono ?_); rintro e w1 ⟨rfl, hb1⟩; replace hO := hO.grow hb1; have hcl1 := hO.b0.cell; have hcx1 := hO.b1.cell)
     |(go_at_call 24; (with_reducible refine (hfr _ hO.below).mono ?_); rintro e w2 ⟨rfl, hb2⟩; replace hO := hO.grow hb2))
    go_ret2
    exact ⟨rfl, hO.below⟩
   | some n =>
    unfold frontV at *
    go_enter Tryz.func7, Tryz.ntmps7
    go_wp2_with (first
     |((with_reducible refine own_loadg1 hO ?_ _ rfl rfl _ Tryz.underlying44 rfl (trC_info x xm) ?_); (· first | rfl | (simp [Region.wanted, yielded]; done)))
     |(go_at_call 23; (with_reducible refine (hma _ hO.below).mono ?_); rintro e w1 ⟨rfl, hb1⟩; replace hO := hO.grow hb1; have hcl1 := hO.b0.cell; have hcx1 := hO.b1.cell)
     |(go_at_call 24; (with_reducible refine (hfr _ hO.below).mono ?_); rintro e w2 ⟨rfl, hb2⟩; replace hO := hO.grow hb2))
    go_ret2
    exact ⟨rfl, hO.below⟩
set_option maxRecDepth 8000 in
set_option maxHeartbeats 8000000 in
theorem rauth_k {w : World} {t : Tp} {m : TpM} (h : TpIs w t m) (x : Tr) (xm : TrM) (hx : TrIs w x xm) (now : Int) : Calls Tryz.prog 10 #[.agg m.cells, .agg (trC x xm), .int .i64 now] w fun e w' => ∃ A' c', e = .returned (.slice A' (authX t x now).length c') ∧ RowsAt encSp w' A' (authX t x now) ∧ Below w.heap.size w w' := by
 have hO : Own w _ [_, _] := Own.start2 w 27 44 m.cells (trC x xm)
 have hcl := hO.b0.cell
 have hcx := hO.b1.cell
 have hfx := fun W (hW : Below w.heap.size w W) => rfront_m (h.below hW) x xm (hx.below hW)
 have htk := fun W => rtick_k now W
 have hre := fun W (hW : Below w.heap.size w W) => rreach_m x.ma xm.v (now - x.at_) W (hx.ma.below hW)
 have hA : authX t x now = match frontX t x with
  | none => []
  | some n => if x.stops ≠ [] ∨ clockP now = false then [] else if reachP x.ma.sects (now - x.at_) 0 ≤ n then [] else extentT t x.ma n (reachP x.ma.sects (now - x.at_) 0) := rfl
 have hst : x.stops ≠ [] ↔ 0 < xm.n3 := by
  rw [← hx.e3]
  exact ⟨List.length_pos_iff.2, List.length_pos_iff.1⟩
 simp only [hst] at hA
 clear hst
 have hck : clockP now = true → 0 ≤ now ∧ now ≤ 268435456 := by unfold clockP; simp
 generalize authX t x now = au at *
 generalize clockP now = ck at *
 have t0 := tr0 x xm
 have t1 := tr1 x xm
 have t2 := tr2 x xm
 have t3 := tr3 x xm
 have t4 := tr4 x xm
 have t5 := tr5 x xm
 have t6 := tr6 x xm
 have t7 := tr7 x xm
 have t8 := tr8 x xm
 have t9 := tr9 x xm
 have t10 := tr10 x xm
 have t11 := tr11 x xm
 have t12 := tr12 x xm
 have t28 := tr28 x xm
 have t29 := tr29 x xm
 have t30 := tr30 x xm
 have t31 := tr31 x xm
 have t32 := tr32 x xm
 have t33 := tr33 x xm
 have t34 := tr34 x xm
 have t35 := tr35 x xm
 have t36 := tr36 x xm
 have t37 := tr37 x xm
 have t38 := tr38 x xm
 have t39 := tr39 x xm
 have t40 := tr40 x xm
 have t41 := tr41 x xm
 have t42 := tr42 x xm
 have t43 := tr43 x xm
 have t44 := tr44 x xm
 have t45 := tr45 x xm
 have t46 := tr46 x xm
 have t47 := tr47 x xm
 cases hfr : frontX t x with
 | none =>
  rw [hfr] at hA hfx
  obtain rfl : au = [] := hA
  clear hfr hck
  unfold frontV at hfx
  unfold maC at hre
  unfold TpM.cells at *
  go_enter Tryz.func10, Tryz.ntmps10
  go_wp2_with (
   (first
    |((with_reducible refine own_loadg1 hO ?_ _ rfl rfl _ Tryz.underlying44 rfl (trC_info _ xm) ?_); (· first | rfl | (simp [Region.wanted, yielded]; done)))
    |(go_at_call 7; (with_reducible refine (hfx _ hO.below).mono ?_); rintro e w1 ⟨rfl, hb1⟩; replace hO := hO.grow hb1; have hcl1 := hO.b0.cell; have hcx1 := hO.b1.cell)
    |(go_at_call 27; (with_reducible refine (htk _).mono ?_); rintro e w8 ⟨rfl, hw8⟩; obtain rfl := hw8.symm)
    |(go_at_call 28; (with_reducible refine (hre _ hO.below).mono ?_); rintro e w2 ⟨rfl, hb2⟩; replace hO := hO.grow hb2; have hcl2 := hO.b0.cell; have hcx2 := hO.b1.cell)
    |(go_at_call 29; (with_reducible refine (hex _ hO.below).mono ?_); rintro e w3 ⟨A9, c9, rfl, hr9, hb3⟩; replace hO := hO.grow hb3))
   )
  go_ret
  exact ⟨none, 0, rfl, RowsAt.nil _ _, hO.below⟩
 | some n =>
  obtain ⟨n0, may1, held1, mayp1⟩ := front_nonneg hfr
  obtain ⟨r0, r1⟩ := reach_last mayp1 (now - x.at_)
  have hgap := (may_ok mayp1).2.2.1
  obtain ⟨_, _, _, _, _, _, _, _, _, _, _, q0, q1⟩ := (mayX_iff t x).1 may1
  have hex := fun W (hW : Below w.heap.size w W) (hle : n < reachP x.ma.sects (now - x.at_) 0) => rextent_k (h.below hW) x.ma xm.v (hx.ma.below hW) mayp1 n (reachP x.ma.sects (now - x.at_) 0) n0 (by omega) (by omega)
  rw [hfr] at hA hfx
  simp only at hA
  clear hfr may1 held1 mayp1
  generalize reachP x.ma.sects (now - x.at_) 0 = rr at *
  unfold frontV at hfx
  cases ck with
  | false =>
   rw [if_pos (.inr rfl)] at hA
   subst hA
   clear hex hck
   unfold maC at hre
   unfold TpM.cells at *
   go_enter Tryz.func10, Tryz.ntmps10
   go_wp2_with (
    (first
     |((with_reducible refine own_loadg1 hO ?_ _ rfl rfl _ Tryz.underlying44 rfl (trC_info _ xm) ?_); (· first | rfl | (simp [Region.wanted, yielded]; done)))
     |(go_at_call 7; (with_reducible refine (hfx _ hO.below).mono ?_); rintro e w1 ⟨rfl, hb1⟩; replace hO := hO.grow hb1; have hcl1 := hO.b0.cell; have hcx1 := hO.b1.cell)
     |(go_at_call 27; (with_reducible refine (htk _).mono ?_); rintro e w8 ⟨rfl, hw8⟩; obtain rfl := hw8.symm)
     |(go_at_call 28; (with_reducible refine (hre _ hO.below).mono ?_); rintro e w2 ⟨rfl, hb2⟩; replace hO := hO.grow hb2; have hcl2 := hO.b0.cell; have hcx2 := hO.b1.cell)
     |(go_at_call 29; (with_reducible refine (hex _ hO.below).mono ?_); rintro e w3 ⟨A9, c9, rfl, hr9, hb3⟩; replace hO := hO.grow hb3))
    )
   go_ret
   exact ⟨none, 0, rfl, RowsAt.nil _ _, hO.below⟩
  | true =>
  obtain ⟨n1, n2⟩ := hck rfl
  clear hck
  by_cases h1 : 0 < xm.n3
  ·
   rw [if_pos (.inl h1)] at hA
   subst hA
   have f1 : decide (0 < (xm.n3 : Int)) = true := by simpa using h1
   clear hex
   unfold maC at hre
   unfold TpM.cells at *
   go_enter Tryz.func10, Tryz.ntmps10
   go_wp2_with (
    (first
     |((with_reducible refine own_loadg1 hO ?_ _ rfl rfl _ Tryz.underlying44 rfl (trC_info _ xm) ?_); (· first | rfl | (simp [Region.wanted, yielded]; done)))
     |(go_at_call 7; (with_reducible refine (hfx _ hO.below).mono ?_); rintro e w1 ⟨rfl, hb1⟩; replace hO := hO.grow hb1; have hcl1 := hO.b0.cell; have hcx1 := hO.b1.cell)
     |(go_at_call 27; (with_reducible refine (htk _).mono ?_); rintro e w8 ⟨rfl, hw8⟩; obtain rfl := hw8.symm)
     |(go_at_call 28; (with_reducible refine (hre _ hO.below).mono ?_); rintro e w2 ⟨rfl, hb2⟩; replace hO := hO.grow hb2; have hcl2 := hO.b0.cell; have hcx2 := hO.b1.cell)
     |(go_at_call 29; (with_reducible refine (hex _ hO.below).mono ?_); rintro e w3 ⟨A9, c9, rfl, hr9, hb3⟩; replace hO := hO.grow hb3))
    )
   go_ret
   exact ⟨none, 0, rfl, RowsAt.nil _ _, hO.below⟩
  have f1 : decide (0 < (xm.n3 : Int)) = false := by simpa using h1
  rw [if_neg (by simp; omega)] at hA
  by_cases h4 : rr ≤ n
  ·
   rw [if_pos h4] at hA
   subst hA
   have f4 : decide (rr ≤ n) = true := by simpa using h4
   clear hex
   unfold maC at hre
   unfold TpM.cells at *
   go_enter Tryz.func10, Tryz.ntmps10
   go_wp2_with (
    (first
     |((with_reducible refine own_loadg1 hO ?_ _ rfl rfl _ Tryz.underlying44 rfl (trC_info _ xm) ?_); (· first | rfl | (simp [Region.wanted, yielded]; done)))
     |(go_at_call 7; (with_reducible refine (hfx _ hO.below).mono ?_); rintro e w1 ⟨rfl, hb1⟩; replace hO := hO.grow hb1; have hcl1 := hO.b0.cell; have hcx1 := hO.b1.cell)
     |(go_at_call 27; (with_reducible refine (htk _).mono ?_); rintro e w8 ⟨rfl, hw8⟩; obtain rfl := hw8.symm)
     |(go_at_call 28; (with_reducible refine (hre _ hO.below).mono ?_); rintro e w2 ⟨rfl, hb2⟩; replace hO := hO.grow hb2; have hcl2 := hO.b0.cell; have hcx2 := hO.b1.cell)
     |(go_at_call 29; (with_reducible refine (hex _ hO.below).mono ?_); rintro e w3 ⟨A9, c9, rfl, hr9, hb3⟩; replace hO := hO.grow hb3))
    )
   go_ret
   exact ⟨none, 0, rfl, RowsAt.nil _ _, hO.below⟩
  have f4 : decide (rr ≤ n) = false := by simpa using h4
  rw [if_neg h4] at hA
  rw [← hA] at hex
  replace hex := fun W (hW : Below w.heap.size w W) => hex W hW (by omega)
  clear hA
  unfold maC at hre hex
  unfold TpM.cells at *
  go_enter Tryz.func10, Tryz.ntmps10
  go_wp2_with (
   (first
    |((with_reducible refine own_loadg1 hO ?_ _ rfl rfl _ Tryz.underlying44 rfl (trC_info _ xm) ?_); (· first | rfl | (simp [Region.wanted, yielded]; done)))
    |(go_at_call 7; (with_reducible refine (hfx _ hO.below).mono ?_); rintro e w1 ⟨rfl, hb1⟩; replace hO := hO.grow hb1; have hcl1 := hO.b0.cell; have hcx1 := hO.b1.cell)
    |(go_at_call 27; (with_reducible refine (htk _).mono ?_); rintro e w8 ⟨rfl, hw8⟩; obtain rfl := hw8.symm)
    |(go_at_call 28; (with_reducible refine (hre _ hO.below).mono ?_); rintro e w2 ⟨rfl, hb2⟩; replace hO := hO.grow hb2; have hcl2 := hO.b0.cell; have hcx2 := hO.b1.cell)
    |(go_at_call 29; (with_reducible refine (hex _ hO.below).mono ?_); rintro e w3 ⟨A9, c9, rfl, hr9, hb3⟩; replace hO := hO.grow hb3))
   )
  go_ret
  exact ⟨A9, c9, rfl, hr9, hO.below⟩
open Go.RowKit Go.Shelf
theorem sameI_take {a b : List Int} {k : Nat} {x y : Int} (ha : a[k]? = some x) (hb : b[k]? = some y) (h : a.take k = b.take k) : a.take (k + 1) = b.take (k + 1) ↔ x = y := by
 rw [take_snoc' ha, take_snoc' hb, h]
 simp
theorem cellI' {w : World} {A : Option Addr} {l : List Int} {i : Nat} {x : Int} (h : RowsAt encI w A l) (hx : l[i]? = some x) : ∃ b off, A = some ⟨b, off, none⟩ ∧ b < w.heap.size ∧ w.cell? ⟨b, off + i, none⟩ = some (.int .i64 x) := by
 obtain ⟨b, off, e, hb, hc⟩ := h.get hx
 refine ⟨b, off, e, hb, ?_⟩
 have := hc 0 _ rfl
 simpa [encI] using this
set_option maxRecDepth 8000 in
set_option maxHeartbeats 4000000 in
theorem rints_k (A : Option Addr) (n c : Nat) (a : List Int) (B : Option Addr) (n2 c2 : Nat) (b : List Int) (w : World) (ha : RowsAt encI w A a) (hn : a.length = n) (hb : RowsAt encI w B b) (hn2 : b.length = n2) (hl : n ≤ 1000) (hl2 : n2 ≤ 1000) : Calls Tryz.prog 30 #[.slice A n c, .slice B n2 c2] w fun r w' => (∃ q, r = .returned (.bool q) ∧ (q = true ↔ a = b)) ∧ Below w.heap.size w w' := by
 have HN := Lib.hid hn
 have HN2 := Lib.hid hn2
 clear hn hn2
 by_cases he : n = n2
 ·
  subst he
  have f0 : ((n : Int) != (n : Int)) = false := by simp
  go_enter Tryz.func30, Tryz.ntmps30
  go_wp2
  clear f0
  go_loopw [5] (fun i wr => ∃ k : Nat, i = .int .i64 k ∧ k ≤ n ∧ Hid (a.take k = b.take k) ∧ Below w.heap.size w wr) (fun i _ => n - (intOf i).toNat)
  case atStart => exact ⟨0, rfl, Nat.zero_le _, Lib.hid rfl, Below.refl _ _⟩
  case round =>
   obtain ⟨k, rfl, hk, hap, hw⟩ := hrel
   by_cases hlt : k < n
   ·
    have hdc : decide ((k : Int) < (n : Int)) = true := by simpa using hlt
    obtain ⟨x, hx⟩ := get_some HN.out hlt
    obtain ⟨y, hy⟩ := get_some HN2.out hlt
    obtain ⟨g, off, rfl, hg, a0⟩ := cellI' ha hx
    obtain ⟨g', off', rfl, hg', b0⟩ := cellI' hb hy
    have ka0 := fun W (hW : Below w.heap.size w W) => (hW.cell (p := ⟨g, off + k, none⟩) hg).trans a0
    have kb0 := fun W (hW : Below w.heap.size w W) => (hW.cell (p := ⟨g', off' + k, none⟩) hg').trans b0
    have hst := sameI_take hx hy hap.out
    by_cases hxy : x = y
    ·
     have f1 : (x != y) = false := by simpa using hxy
     have HST := Lib.hid (hst.2 hxy)
     clear hst hxy hx hy a0 b0 hap
     go_wp2_with fail
     apply wp_region_lex
     case hFl => intro u; simp only [List.map, fill, Act.put, List.setIfInBounds_toArray, List.set_cons_zero, List.set_cons_succ, Nat.reduceAdd, Nat.zero_add]; rfl
     case hm => kernel_rfl
     case hB => kernel_rfl
     case hap => kernel_rfl
     repeat (first | (apply Lex.is; · (intro u w' hk hd; simp [Waited, Region.binds, Is] at hd; refine looked_want ?_ ?_; (· (first | rfl | (simp [Region.wanted, yielded, hd]; done))); intro K hK; have hB2 := below_then hw hk; have m0 := ka0 _ hB2; have m3 := kb0 _ hB2; go_wp2_with (fail); (try simp only [hd] at hK); refine hK _ _ ?_ rfl; first | exact Below.refl _ _ | exact hb3)) | (refine Lex.is (c := undef) ?_ ?_; · (intro u w' hk hd; simp [Waited, Region.binds, Is] at hd; refine looked_skip ?_ rfl; first | (simp [Region.wanted, yielded, hd]; done) | (simp [Region.wanted, yielded, hd, undef]; done))))
     apply Lex.nil
     intro u w' hk hd
     simp only [List.nil_append, List.cons_append] at hd
     have hlast := hd 8 _ rfl
     simp only [Is] at hlast
     clear hd
     simp only [hlast]
     clear hlast
     have hB3 := below_then hw hk
     go_wp2_with fail
     go_roundw
     case rel => exact ⟨k + 1, by go_num, by omega, HST, hB3⟩
     case measure => simp [intOf]; omega
    ·
     have f1 : (x != y) = true := by simpa using hxy
     have hne : a ≠ b := fun e => hxy (hst.1 (by rw [e]))
     have HNE := Lib.hid hne
     clear hst hne hxy hx hy a0 b0 hap
     go_wp2_with fail
     apply wp_region_lex
     case hFl => intro u; simp only [List.map, fill, Act.put, List.setIfInBounds_toArray, List.set_cons_zero, List.set_cons_succ, Nat.reduceAdd, Nat.zero_add]; rfl
     case hm => kernel_rfl
     case hB => kernel_rfl
     case hap => kernel_rfl
     repeat (first | (apply Lex.is; · (intro u w' hk hd; simp [Waited, Region.binds, Is] at hd; refine looked_want ?_ ?_; (· (first | rfl | (simp [Region.wanted, yielded, hd]; done))); intro K hK; have hB2 := below_then hw hk; have m0 := ka0 _ hB2; have m3 := kb0 _ hB2; go_wp2_with (fail); (try simp only [hd] at hK); refine hK _ _ ?_ rfl; first | exact Below.refl _ _ | exact hb3)) | (refine Lex.is (c := undef) ?_ ?_; · (intro u w' hk hd; simp [Waited, Region.binds, Is] at hd; refine looked_skip ?_ rfl; first | (simp [Region.wanted, yielded, hd]; done) | (simp [Region.wanted, yielded, hd, undef]; done))))
     apply Lex.nil
     intro u w' hk hd
     simp only [List.nil_append, List.cons_append] at hd
     have hlast := hd 8 _ rfl
     simp only [Is] at hlast
     clear hd
     simp only [hlast]
     clear hlast
     have hB3 := below_then hw hk
     go_wp2_with fail
     go_ret
     exact ⟨⟨false, rfl, by simp [HNE.out]⟩, hB3⟩
   ·
    obtain rfl : k = n := by omega
    have hdc : decide ((k : Int) < (k : Int)) = false := by simp
    have he := hap.out
    rw [List.take_of_length_le (by rw [HN.out]; exact Nat.le_refl _), List.take_of_length_le (by rw [HN2.out]; exact Nat.le_refl _)] at he
    have HE := Lib.hid he
    clear he hap
    go_wp2_with fail
    go_ret
    exact ⟨⟨true, rfl, by simp [HE.out]⟩, hw⟩
 ·
  have f0 : ((n : Int) != (n2 : Int)) = true := by simp; omega
  have HNE : Hid (a ≠ b) := Lib.hid fun e => by
   have h1 := HN.out
   rw [e, HN2.out] at h1
   exact he h1.symm
  go_enter Tryz.func30, Tryz.ntmps30
  go_wp2
  go_ret
  exact ⟨⟨false, rfl, by simp [HNE.out]⟩, Below.refl _ _⟩
theorem rsame05_k (i : Int) (A : Option Addr) (n c : Nat) (B : Option Addr) (c2 : Nat) (a : List Int) (w : World) (ha : RowsAt encI w A a) (hn : a.length = n) (hb : RowsAt encI w B a) (hl : n ≤ 1000) : Calls Tryz.prog 13 #[.agg #[.int .i64 i, .slice A n c], .agg #[.int .i64 i, .slice B n c2]] w fun r w' => r = .returned (.bool true) ∧ Below w.heap.size w w' := by
 have hO : Own w _ [_, _] := Own.start2 w 56 56 #[.int .i64 i, .slice A n c] #[.int .i64 i, .slice B n c2]
 have hcl := hO.b0.cell
 have hcx := hO.b1.cell
 have hin := fun W (hW : Below w.heap.size w W) => rints_k A n c a B n c2 a W (ha.below hW) hn (hb.below hW) hn hl hl
 go_enter Tryz.func13, Tryz.ntmps13
 go_wp2_with (first
  |(go_at_call 30; (with_reducible refine (hin _ hO.below).mono ?_); rintro e w1 ⟨⟨q, rfl, hq⟩, hb1⟩; obtain rfl := hq.2 rfl; replace hO := hO.grow hb1; have hcl1 := hO.b0.cell; have hcx1 := hO.b1.cell))
 go_ret
 exact ⟨rfl, hO.below⟩
def repL (x : Tr) : List Int := if 32766 < x.past then [] else [0, x.ref, x.past, (if x.rev then 0 else 1), (if x.rev then 0 else 1), 0, 0, 1, x.len, 0, 1, 0, 3]
def repE (x : Tr) : Int := if 32766 < x.past then 7 else 0
theorem flatI (l : List Int) : encI.flat l = l.map fun n => Value.int .i64 n := by
 induction l with
 | nil => rfl
 | cons x l ih => rw [encI.flat_cons, ih]; rfl
theorem rowsI_blk {w : World} {g : Nat} (l : List Int) (h : Blk w g 3 (l.map fun n => Value.int .i64 n).toArray) : RowsAt encI w (some ⟨g, 0, none⟩) l := fun _ => ⟨g, 0, rfl, h.lt, fun j u hu => by
 rw [Nat.zero_add, h.cell]
 rw [flatI] at hu
 simpa using hu⟩
set_option maxRecDepth 8000 in
set_option maxHeartbeats 4000000 in
theorem oreport_k (x : Tr) (xm : TrM) (w : World) : Calls Tryz.prog 11 #[.agg (trC x xm)] w fun e w' => (∃ A c, e = .returned (.tuple #[.agg #[.int .i64 0, .slice A (repL x).length c], .int .i64 (repE x)]) ∧ RowsAt encI w' A (repL x)) ∧ Below w.heap.size w w' := by
 have hO1 : Own w _ [_, _] := Own.start2 w 44 56 (trC x xm) #[.int .i64 0, .slice none 0 0]
 have hcx := hO1.b0.cell
 have t0 := tr0 x xm
 have t1 := tr1 x xm
 have t2 := tr2 x xm
 have t3 := tr3 x xm
 have t4 := tr4 x xm
 have t5 := tr5 x xm
 have t6 := tr6 x xm
 have t7 := tr7 x xm
 have t8 := tr8 x xm
 have t9 := tr9 x xm
 have t10 := tr10 x xm
 have t11 := tr11 x xm
 have t12 := tr12 x xm
 have t28 := tr28 x xm
 have t29 := tr29 x xm
 have t30 := tr30 x xm
 have t31 := tr31 x xm
 have t32 := tr32 x xm
 have t33 := tr33 x xm
 have t34 := tr34 x xm
 have t35 := tr35 x xm
 have t36 := tr36 x xm
 have t37 := tr37 x xm
 have t38 := tr38 x xm
 have t39 := tr39 x xm
 have t40 := tr40 x xm
 have t41 := tr41 x xm
 have t42 := tr42 x xm
 have t43 := tr43 x xm
 have t44 := tr44 x xm
 have t45 := tr45 x xm
 have t46 := tr46 x xm
 have t47 := tr47 x xm
 by_cases h1 : 32766 < x.past
 ·
  have f1 : decide (32766 < x.past) = true := by simpa using h1
  have hl : repL x = [] := by unfold repL; rw [if_pos h1]
  have he : repE x = 7 := by unfold repE; rw [if_pos h1]
  rw [hl, he]
  have hO := hO1
  clear hl he h1 hO1
  go_enter Tryz.func11, Tryz.ntmps11
  go_wp2_with (first
   | fail
   |((with_reducible refine own_row1 (#[.int .i64 0, .slice none 0 0]) hO rfl _ _ rfl rfl rfl (by kernel_rfl) rfl ?_ ?_); (· first | rfl | (simp [Value.oneCell']; done)); intro wR hOR hszR hkR; replace hO := hOR; clear hOR)
   )
  exact bodyPost_ret (results_ct1 Tryz.results11 _ _ _ _ _ _ rfl rfl hO.b1 Tryz.underlying56 rfl (by kernel_rfl)) rfl ⟨⟨none, 0, rfl, RowsAt.nil _ _⟩, hO.below⟩
 ·
  have f1 : decide (32766 < x.past) = false := by simpa using h1
  have he : repE x = 0 := by unfold repE; rw [if_neg h1]
  rw [he]
  obtain ⟨rv, hrv⟩ : ∃ b, b = x.rev := ⟨_, rfl⟩
  have hl : repL x = [0, x.ref, x.past, (if rv then 0 else 1), (if rv then 0 else 1), 0, 0, 1, x.len, 0, 1, 0, 3] := by unfold repL; rw [if_neg h1, hrv]
  rw [hl]
  rw [← hrv] at t39
  clear hl he h1 hrv
  cases rv with
  | true =>
   simp only [if_true]
   have hO : Own w _ [_, _, _] := Own.start3 w 44 56 3 (trC x xm) #[.int .i64 0, .slice none 0 0] (([0, x.ref, x.past, 0, 0, 0, 0, 1, x.len, 0, 1, 0, 3] : List Int).map fun n => Value.int .i64 n).toArray
   simp only [List.map] at hO
   go_enter Tryz.func11, Tryz.ntmps11
   go_wp2_with (first
    | fail
    |((with_reducible refine own_row1 (#[.int .i64 0, .slice (some ⟨w.heap.size + 1 + 1, 0, none⟩) 13 13]) hO rfl _ _ rfl rfl rfl (by kernel_rfl) rfl ?_ ?_); (· first | rfl | (simp [Value.oneCell']; done)); intro wR hOR hszR hkR; replace hO := hOR; clear hOR)
    )
   exact bodyPost_ret (results_ct1 Tryz.results11 _ _ _ _ _ _ rfl rfl hO.b1 Tryz.underlying56 rfl (by kernel_rfl)) rfl ⟨⟨some ⟨w.heap.size + 1 + 1, 0, none⟩, 13, rfl, rowsI_blk _ hO.b2⟩, hO.below⟩
  | false =>
   simp only [Bool.false_eq_true, if_false]
   have hO : Own w _ [_, _, _] := Own.start3 w 44 56 3 (trC x xm) #[.int .i64 0, .slice none 0 0] (([0, x.ref, x.past, 1, 1, 0, 0, 1, x.len, 0, 1, 0, 3] : List Int).map fun n => Value.int .i64 n).toArray
   simp only [List.map] at hO
   go_enter Tryz.func11, Tryz.ntmps11
   go_wp2_with (first
    | fail
    |((with_reducible refine own_row1 (#[.int .i64 0, .slice (some ⟨w.heap.size + 1 + 1, 0, none⟩) 13 13]) hO rfl _ _ rfl rfl rfl (by kernel_rfl) rfl ?_ ?_); (· first | rfl | (simp [Value.oneCell']; done)); intro wR hOR hszR hkR; replace hO := hOR; clear hOR)
    )
   exact bodyPost_ret (results_ct1 Tryz.results11 _ _ _ _ _ _ rfl rfl hO.b1 Tryz.underlying56 rfl (by kernel_rfl)) rfl ⟨⟨some ⟨w.heap.size + 1 + 1, 0, none⟩, 13, rfl, rowsI_blk _ hO.b2⟩, hO.below⟩
set_option maxRecDepth 8000 in
set_option maxHeartbeats 4000000 in
theorem rreport_k (x : Tr) (xm : TrM) (w : World) : Calls Tryz.prog 12 #[.agg (trC x xm)] w fun e w' => (∃ A c, e = .returned (.tuple #[.agg #[.int .i64 0, .slice A (repL x).length c], .int .i64 (repE x)]) ∧ RowsAt encI w' A (repL x)) ∧ Below w.heap.size w w' := by
 have hO1 : Own w _ [_, _] := Own.start2 w 44 56 (trC x xm) #[.int .i64 0, .slice none 0 0]
 have hcx := hO1.b0.cell
 have t0 := tr0 x xm
 have t1 := tr1 x xm
 have t2 := tr2 x xm
 have t3 := tr3 x xm
 have t4 := tr4 x xm
 have t5 := tr5 x xm
 have t6 := tr6 x xm
 have t7 := tr7 x xm
 have t8 := tr8 x xm
 have t9 := tr9 x xm
 have t10 := tr10 x xm
 have t11 := tr11 x xm
 have t12 := tr12 x xm
 have t28 := tr28 x xm
 have t29 := tr29 x xm
 have t30 := tr30 x xm
 have t31 := tr31 x xm
 have t32 := tr32 x xm
 have t33 := tr33 x xm
 have t34 := tr34 x xm
 have t35 := tr35 x xm
 have t36 := tr36 x xm
 have t37 := tr37 x xm
 have t38 := tr38 x xm
 have t39 := tr39 x xm
 have t40 := tr40 x xm
 have t41 := tr41 x xm
 have t42 := tr42 x xm
 have t43 := tr43 x xm
 have t44 := tr44 x xm
 have t45 := tr45 x xm
 have t46 := tr46 x xm
 have t47 := tr47 x xm
 by_cases h1 : 32766 < x.past
 ·
  have f1 : decide (32766 < x.past) = true := by simpa using h1
  have hl : repL x = [] := by unfold repL; rw [if_pos h1]
  have he : repE x = 7 := by unfold repE; rw [if_pos h1]
  rw [hl, he]
  have hO := hO1
  clear hl he h1 hO1
  go_enter Tryz.func12, Tryz.ntmps12
  go_wp2_with (first
   | fail
   |((with_reducible refine own_row1 (#[.int .i64 0, .slice none 0 0]) hO rfl _ _ rfl rfl rfl (by kernel_rfl) rfl ?_ ?_); (· first | rfl | (simp [Value.oneCell']; done)); intro wR hOR hszR hkR; replace hO := hOR; clear hOR)
   )
  exact bodyPost_ret (results_ct1 Tryz.results12 _ _ _ _ _ _ rfl rfl hO.b1 Tryz.underlying56 rfl (by kernel_rfl)) rfl ⟨⟨none, 0, rfl, RowsAt.nil _ _⟩, hO.below⟩
 ·
  have f1 : decide (32766 < x.past) = false := by simpa using h1
  have he : repE x = 0 := by unfold repE; rw [if_neg h1]
  rw [he]
  obtain ⟨rv, hrv⟩ : ∃ b, b = x.rev := ⟨_, rfl⟩
  have hl : repL x = [0, x.ref, x.past, (if rv then 0 else 1), (if rv then 0 else 1), 0, 0, 1, x.len, 0, 1, 0, 3] := by unfold repL; rw [if_neg h1, hrv]
  rw [hl]
  rw [← hrv] at t39
  clear hl he h1 hrv
  cases rv with
  | true =>
   simp only [if_true]
   have hO : Own w _ [_, _, _] := Own.start3 w 44 56 3 (trC x xm) #[.int .i64 0, .slice none 0 0] (([0, x.ref, x.past, 0, 0, 0, 0, 1, x.len, 0, 1, 0, 3] : List Int).map fun n => Value.int .i64 n).toArray
   simp only [List.map] at hO
   go_enter Tryz.func12, Tryz.ntmps12
   go_wp2_with (first
    | fail
    |((with_reducible refine own_row1 (#[.int .i64 0, .slice (some ⟨w.heap.size + 1 + 1, 0, none⟩) 13 13]) hO rfl _ _ rfl rfl rfl (by kernel_rfl) rfl ?_ ?_); (· first | rfl | (simp [Value.oneCell']; done)); intro wR hOR hszR hkR; replace hO := hOR; clear hOR)
    )
   exact bodyPost_ret (results_ct1 Tryz.results12 _ _ _ _ _ _ rfl rfl hO.b1 Tryz.underlying56 rfl (by kernel_rfl)) rfl ⟨⟨some ⟨w.heap.size + 1 + 1, 0, none⟩, 13, rfl, rowsI_blk _ hO.b2⟩, hO.below⟩
  | false =>
   simp only [Bool.false_eq_true, if_false]
   have hO : Own w _ [_, _, _] := Own.start3 w 44 56 3 (trC x xm) #[.int .i64 0, .slice none 0 0] (([0, x.ref, x.past, 1, 1, 0, 0, 1, x.len, 0, 1, 0, 3] : List Int).map fun n => Value.int .i64 n).toArray
   simp only [List.map] at hO
   go_enter Tryz.func12, Tryz.ntmps12
   go_wp2_with (first
    | fail
    |((with_reducible refine own_row1 (#[.int .i64 0, .slice (some ⟨w.heap.size + 1 + 1, 0, none⟩) 13 13]) hO rfl _ _ rfl rfl rfl (by kernel_rfl) rfl ?_ ?_); (· first | rfl | (simp [Value.oneCell']; done)); intro wR hOR hszR hkR; replace hO := hOR; clear hOR)
    )
   exact bodyPost_ret (results_ct1 Tryz.results12 _ _ _ _ _ _ rfl rfl hO.b1 Tryz.underlying56 rfl (by kernel_rfl)) rfl ⟨⟨some ⟨w.heap.size + 1 + 1, 0, none⟩, 13, rfl, rowsI_blk _ hO.b2⟩, hO.below⟩
end Go.Proofs.YtkaggddmhjifjaaGreatDoor
