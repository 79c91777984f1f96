/- Texts in one: TopoCheck. -/
import Derived.Test.YtkaggddmhjifjaaGreatDoorK09
import Derived.Test.YtkaggddmhjifjaaGreatDoorK06
set_option linter.unusedSimpArgs false
set_option linter.unusedVariables false
namespace Go.Proofs.YtkaggddmhjifjaaGreatDoor
open Go.RowKit Go.Shelf
theorem check_is {w : World} {t : Tp} {m : TpM} (h : TpIs w t m) : checkT t = if 40 < m.n1 ∨ 80 < m.n2 ∨ 80 < m.n3 ∨ 30 < m.n4 then 2 else if t.edges.any (fun n => decide (n < 1) || decide (1000000 < n)) then 1 else if jointsE t [] t.joints ≠ 0 then jointsE t [] t.joints else if balsE t [] t.bals ≠ 0 then balsE t [] t.bals else routesE t [] t.routes := by
 rw [← h.e1, ← h.e2, ← h.e3, ← h.e4]
 rfl
set_option maxRecDepth 8000 in
set_option maxHeartbeats 16000000 in
theorem check_m {w : World} {t : Tp} {m : TpM} (h : TpIs w t m) : Calls Tryz.prog 70 #[.agg m.cells] w fun e w' => e = .returned (.int .i64 (checkT t)) ∧ Below w.heap.size w w' := by
 have hO : Own w _ [_] := (Own.nil w).alloc 27 m.cells _ rfl
 have hcl := hO.b0.cell
 have hr := check_is h
 have hl1 := h.l1
 have hl2 := h.l2
 have hl3 := h.l3
 have hl4 := h.l4
 have hq1 := h.q1
 have hq2 := h.q2
 have hq3 := h.q3
 have hq4 := h.q4
 have HR := Lib.hid hr
 clear hr
 have hany := fun W (hW : Below w.heap.size w W) => anyI_k 120 enter_check1 #[] (fun n => decide (n < 1) || decide (1000000 < n)) m.A1 m.n1 m.c1 t.edges W (fun W' x hW' => (check1_k x W').mono fun _ _ ⟨h1, h2⟩ => ⟨h1, 0, h2⟩) (h.lies.edges.below hW) h.e1 (by omega)
 unfold TpM.cells at *
 by_cases hbad : 40 < m.n1 ∨ 80 < m.n2 ∨ 80 < m.n3 ∨ 30 < m.n4
 ·
  have HR' := HR.out
  rw [if_pos hbad] at HR'
  replace HR := Lib.hid HR'
  clear HR'
  by_cases h1 : 40 < m.n1
  ·
   have e1 : decide (40 < (m.n1 : Int)) = true := by simp; omega
   go_enter Tryz.func70, Tryz.ntmps70
   go_wp2
   go_ret
   exact ⟨by simp [HR.out], hO.below⟩
  have e1 : decide (40 < (m.n1 : Int)) = false := by simp; omega
  by_cases h2 : 80 < m.n2
  ·
   have e2 : decide (80 < (m.n2 : Int)) = true := by simp; omega
   go_enter Tryz.func70, Tryz.ntmps70
   go_wp2
   go_ret
   exact ⟨by simp [HR.out], hO.below⟩
  have e2 : decide (80 < (m.n2 : Int)) = false := by simp; omega
  by_cases h3 : 80 < m.n3
  ·
   have e3 : decide (80 < (m.n3 : Int)) = true := by simp; omega
   go_enter Tryz.func70, Tryz.ntmps70
   go_wp2
   go_ret
   exact ⟨by simp [HR.out], hO.below⟩
  have e3 : decide (80 < (m.n3 : Int)) = false := by simp; omega
  have e4 : decide (30 < (m.n4 : Int)) = true := by simp; omega
  go_enter Tryz.func70, Tryz.ntmps70
  go_wp2
  go_ret
  exact ⟨by simp [HR.out], hO.below⟩
 have HR' := HR.out
 rw [if_neg hbad] at HR'
 have e1 : decide (40 < (m.n1 : Int)) = false := by simp; omega
 have e2 : decide (80 < (m.n2 : Int)) = false := by simp; omega
 have e3 : decide (80 < (m.n3 : Int)) = false := by simp; omega
 have e4 : decide (30 < (m.n4 : Int)) = false := by simp; omega
 cases han : (t.edges.any fun n => decide (n < 1) || decide (1000000 < n)) with
 | true =>
  rw [han] at hany
  rw [if_pos han] at HR'
  replace HR := Lib.hid HR'
  clear HR' han
  go_enter Tryz.func70, Tryz.ntmps70
  go_wp2_with (first
   |(go_at_call 118; (with_reducible refine (hany _ hO.below).mono ?_); rintro e w2 ⟨rfl, hb2⟩; replace hO := hO.grow hb2; have hcl1 := hO.b0.cell))
  go_ret
  exact ⟨by simp [HR.out], hO.below⟩
 | false =>
 rw [han] at hany
 rw [if_neg (by rw [han]; simp)] at HR'
 replace HR := Lib.hid HR'
 clear HR' han hbad
 go_enter Tryz.func70, Tryz.ntmps70
 go_wp2_with (first
  |(go_at_call 118; (with_reducible refine (hany _ hO.below).mono ?_); rintro e w2 ⟨rfl, hb2⟩; replace hO := hO.grow hb2; have hcl1 := hO.b0.cell))
 clear hcl hcl1 hany
 go_loopw [42] (fun i wr => ∃ k : Nat, i = .int .i64 k ∧ k ≤ m.n2 ∧ Hid (jointsE t [] t.joints = jointsE t (t.joints.take k) (t.joints.drop k)) ∧ Own w wr [(w.heap.size, 27, #[.slice m.A1 m.n1 m.c1, .slice m.A2 m.n2 m.c2, .slice m.A3 m.n3 m.c3, .slice m.A4 m.n4 m.c4])]) (fun i _ => m.n2 - (intOf i).toNat)
 case atStart => exact ⟨0, rfl, Nat.zero_le _, Lib.hid (by simp), hO⟩
 case round =>
  clear hO
  obtain ⟨k, rfl, hk, hap, hO⟩ := hrel
  by_cases hlt : k < m.n2
  ·
   obtain ⟨j, hj⟩ := get_some h.e2 hlt
   obtain ⟨g, off, hA2, hg, a0, a1, a2, a3⟩ := h.lies.joints.jt hj
   have kk0 := (hO.below.cell (p := ⟨g, off + k * 4, none⟩) hg).trans a0
   have kk1 := (hO.below.cell (p := ⟨g, off + k * 4 + 1, none⟩) hg).trans a1
   have kk2 := (hO.below.cell (p := ⟨g, off + k * 4 + 2, none⟩) hg).trans a2
   have kk3 := (hO.below.cell (p := ⟨g, off + k * 4 + 3, none⟩) hg).trans a3
   have hstep := joints_step (t := t) hj
   rw [← hap.out] at hstep
   have hea := fun W => end_m h j.a W
   have heb := fun W => end_m h j.b W
   have hjo := fun W (hW : Below w.heap.size w W) => joins_m (sub_joints (h.below hW) k hk) j.a j.b
   simp only [TpM.cells, hA2] at hO hea heb hjo ⊢
   obtain ⟨⟨x1, x2⟩, ⟨x3, x4⟩⟩ := j
   simp only at hea heb hjo kk0 kk1 kk2 kk3 hstep
   have heq := run_eql_en ⟨x1, x2⟩ ⟨x3, x4⟩
   have hO1 := Own.new1 hO 91 #[.int .i64 x1, .int .i64 x2, .int .i64 x3, .int .i64 x4]
   have hcm := hO1.b0.cell
   have hcn := hO1.b1.cell
   have hcl := hO.b0.cell
   clear hj a0 a1 a2 a3
   generalize endT t ⟨x1, x2⟩ = ea at *
   generalize endT t ⟨x3, x4⟩ = eb at *
   generalize joinsT (t.joints.take k) ⟨x1, x2⟩ ⟨x3, x4⟩ = jo at *
   obtain ⟨sm, hsm⟩ : ∃ b, b = decide ((⟨x1, x2⟩ : En) = ⟨x3, x4⟩) := ⟨_, rfl⟩
   rw [← hsm] at heq
   have hstep' : jointsE t [] t.joints = if ea = false ∨ eb = false ∨ sm = true then 1 else if jo = true then 5 else jointsE t (t.joints.take (k + 1)) (t.joints.drop (k + 1)) := by
    rw [hstep, hsm]
    simp
   clear hstep hsm
   cases ea with
   | false =>
    have HR' := HR.out
    rw [if_pos (.inl rfl)] at hstep'
    rw [hstep', if_pos (by decide)] at HR'
    replace HR := Lib.hid HR'
    clear HR' hstep' heb hjo heq
    go_wp2_with (first
     |(go_at_call 121; (with_reducible refine (hea _).mono ?_); rintro e w1 ⟨rfl, hb1⟩; replace hO := hO1.grow hb1; have hcl1 := hO.b0.cell; have hcr1 := hO.b1.cell))
    go_ret
    exact ⟨by simp [HR.out], hO.below⟩
   | true =>
   cases eb with
   | false =>
    have HR' := HR.out
    rw [if_pos (.inr (.inl rfl))] at hstep'
    rw [hstep', if_pos (by decide)] at HR'
    replace HR := Lib.hid HR'
    clear HR' hstep' hjo heq
    go_wp2_with (first
     |(go_at_call 121; (with_reducible refine (hea _).mono ?_); rintro e w1 ⟨rfl, hb1⟩; replace hO := hO1.grow hb1; have hcl1 := hO.b0.cell; have hcr1 := hO.b1.cell)
     |(go_at_call 121; (with_reducible refine (heb _).mono ?_); rintro e w2 ⟨rfl, hb2⟩; replace hO := hO.grow hb2; have hcl2 := hO.b0.cell; have hcr2 := hO.b1.cell))
    go_ret
    exact ⟨by simp [HR.out], hO.below⟩
   | true =>
   cases sm with
   | true =>
    have HR' := HR.out
    rw [if_pos (.inr (.inr rfl))] at hstep'
    rw [hstep', if_pos (by decide)] at HR'
    replace HR := Lib.hid HR'
    clear HR' hstep' hjo
    go_wp2_with (first
     |(go_at_call 121; (with_reducible refine (hea _).mono ?_); rintro e w1 ⟨rfl, hb1⟩; replace hO := hO1.grow hb1; have hcl1 := hO.b0.cell; have hcr1 := hO.b1.cell)
     |(go_at_call 121; (with_reducible refine (heb _).mono ?_); rintro e w2 ⟨rfl, hb2⟩; replace hO := hO.grow hb2; have hcl2 := hO.b0.cell; have hcr2 := hO.b1.cell))
    go_ret
    exact ⟨by simp [HR.out], hO.below⟩
   | false =>
   rw [if_neg (by simp)] at hstep'
   go_wp2_with (first
    |(go_at_call 121; (with_reducible refine (hea _).mono ?_); rintro e w1 ⟨rfl, hb1⟩; replace hO := hO1.grow hb1; have hcl1 := hO.b0.cell; have hcr1 := hO.b1.cell)
    |(go_at_call 121; (with_reducible refine (heb _).mono ?_); rintro e w2 ⟨rfl, hb2⟩; replace hO := hO.grow hb2; have hcl2 := hO.b0.cell; have hcr2 := hO.b1.cell))
   clear hcl hcm hcn hcl1 hcr1 hcl2 hcr2 hea heb heq
   cases jo with
   | true =>
    have HR' := HR.out
    rw [if_pos rfl] at hstep'
    rw [hstep', if_pos (by decide)] at HR'
    replace HR := Lib.hid HR'
    clear HR' hstep'
    apply wp_region_lex
    case hFl => intro u; simp only [List.map, fill, Act.put, List.setIfInBounds_toArray, List.set_cons_zero, List.set_cons_succ, Nat.reduceAdd, Nat.zero_add]; rfl
    case hm => kernel_rfl
    case hB => kernel_rfl
    case hap => kernel_rfl
    repeat (first | (apply Lex.is; · (intro u w' hk hd; simp [Waited, Region.binds, Is] at hd; refine looked_want ?_ ?_; (· (first | rfl | (simp [Region.wanted, yielded, hd]; done))); intro K hK; have hO2 := hO.grow hk; have hB2 := hO2.below; have hca := hO2.b0.cell; have hcb := hO2.b1.cell; go_wp2_with (go_at_call 122; (with_reducible refine (hjo _ hB2).mono ?_); rintro e w3 ⟨rfl, hb3⟩); (try simp only [hd] at hK); refine hK _ _ ?_ rfl; first | exact Below.refl _ _ | exact hb3)) | (refine Lex.is (c := undef) ?_ ?_; · (intro u w' hk hd; simp [Waited, Region.binds, Is] at hd; refine looked_skip ?_ rfl; first | (simp [Region.wanted, yielded, hd]; done) | (simp [Region.wanted, yielded, hd, undef]; done))))
    apply Lex.nil
    intro u w' hk hd
    simp only [List.nil_append, List.cons_append] at hd
    have hlast := hd 9 _ rfl
    simp only [Is] at hlast
    clear hd
    simp only [hlast]
    clear hlast
    have hB3 := (hO.grow hk).below
    go_wp2_with fail
    go_ret
    exact ⟨by simp [HR.out], hB3⟩
   | false =>
    rw [if_neg (by simp)] at hstep'
    have HAP := Lib.hid hstep'
    clear hstep' hap
    apply wp_region_lex
    case hFl => intro u; simp only [List.map, fill, Act.put, List.setIfInBounds_toArray, List.set_cons_zero, List.set_cons_succ, Nat.reduceAdd, Nat.zero_add]; rfl
    case hm => kernel_rfl
    case hB => kernel_rfl
    case hap => kernel_rfl
    repeat (first | (apply Lex.is; · (intro u w' hk hd; simp [Waited, Region.binds, Is] at hd; refine looked_want ?_ ?_; (· (first | rfl | (simp [Region.wanted, yielded, hd]; done))); intro K hK; have hO2 := hO.grow hk; have hB2 := hO2.below; have hca := hO2.b0.cell; have hcb := hO2.b1.cell; go_wp2_with (go_at_call 122; (with_reducible refine (hjo _ hB2).mono ?_); rintro e w3 ⟨rfl, hb3⟩); (try simp only [hd] at hK); refine hK _ _ ?_ rfl; first | exact Below.refl _ _ | exact hb3)) | (refine Lex.is (c := undef) ?_ ?_; · (intro u w' hk hd; simp [Waited, Region.binds, Is] at hd; refine looked_skip ?_ rfl; first | (simp [Region.wanted, yielded, hd]; done) | (simp [Region.wanted, yielded, hd, undef]; done))))
    apply Lex.nil
    intro u w' hk hd
    simp only [List.nil_append, List.cons_append] at hd
    have hlast := hd 9 _ rfl
    simp only [Is] at hlast
    clear hd
    simp only [hlast]
    clear hlast
    have hO3 := hO.grow hk
    go_wp2_with fail
    go_roundw
    case rel => exact ⟨k + 1, by go_num, by omega, HAP, ⟨hO3.below, fun x hx => hO3.blk x (by simp at hx; rcases hx with rfl | rfl <;> simp), by simp⟩⟩
    case measure => simp [intOf]; omega
  ·
   obtain rfl : k = m.n2 := by omega
   have hj0 : jointsE t [] t.joints = 0 := by
    rw [hap.out, List.drop_of_length_le (by rw [h.e2]; exact Nat.le_refl _), jointsE.eq_def]
   have HR' := HR.out
   rw [if_neg (by rw [hj0]; simp)] at HR'
   replace HR := Lib.hid HR'
   clear HR' hj0 hap
   have hcl := hO.b0.cell
   go_wp2_with fail
   clear hcl
   go_loopw [80] (fun i wr => ∃ k : Nat, i = .int .i64 k ∧ k ≤ m.n3 ∧ Hid (balsE t [] t.bals = balsE t (t.bals.take k) (t.bals.drop k)) ∧ Own w wr [(w.heap.size, 27, #[.slice m.A1 m.n1 m.c1, .slice m.A2 m.n2 m.c2, .slice m.A3 m.n3 m.c3, .slice m.A4 m.n4 m.c4])]) (fun i _ => m.n3 - (intOf i).toNat)
   case atStart => exact ⟨0, rfl, Nat.zero_le _, Lib.hid (by simp), hO⟩
   case round =>
    clear hO
    obtain ⟨k, rfl, hk, hap, hO⟩ := hrel
    by_cases hlt : k < m.n3
    ·
     obtain ⟨b, hb⟩ := get_some h.e3 hlt
     obtain ⟨g, off, hA3, hg, a0, a1, a2⟩ := h.lies.bals.bl hb
     have kk0 := (hO.below.cell (p := ⟨g, off + k * 3, none⟩) hg).trans a0
     have kk1 := (hO.below.cell (p := ⟨g, off + k * 3 + 1, none⟩) hg).trans a1
     have kk2 := (hO.below.cell (p := ⟨g, off + k * 3 + 2, none⟩) hg).trans a2
     have hstep := bals_step (t := t) hb
     rw [← hap.out] at hstep
     have hm := fun W => there_m h b.edge W
     have hbal := fun W (hW : Below w.heap.size w W) => bal_m (sub_bals (h.below hW) k hk) b.id
     simp only [TpM.cells, hA3] at hO hm hbal ⊢
     obtain ⟨x1, x2, x3⟩ := b
     simp only at hm hbal kk0 kk1 kk2 hstep
     have hO1 := Own.new1 hO 93 #[.int .i64 x1, .int .i64 x2, .int .i64 x3]
     have hcm := hO1.b0.cell
     have hcn := hO1.b1.cell
     have hcl := hO.b0.cell
     clear hb a0 a1 a2
     have hthere := @there_int t x2
     generalize thereT t x2 = th at *
     by_cases h1 : x1 < 0
     ·
      have f1 : decide (x1 < 0) = true := by simp; omega
      clear hthere hbal
      have HR' := HR.out
      rw [if_pos (.inl h1)] at hstep
      rw [hstep, if_pos (by decide)] at HR'
      replace HR := Lib.hid HR'
      clear HR' hstep
      go_wp2
      generalize (wr.alloc (.cells #[.int .i64 x1, .int .i64 x2, .int .i64 x3] 93)) = W0 at hO1 ⊢
      replace hO := hO1
      apply wp_region_lex
      case hFl => intro u; simp only [List.map, fill, Act.put, List.setIfInBounds_toArray, List.set_cons_zero, List.set_cons_succ, Nat.reduceAdd, Nat.zero_add]; rfl
      case hm => kernel_rfl
      case hB => kernel_rfl
      case hap => kernel_rfl
      repeat (first | (apply Lex.is; · (intro u w' hk hd; simp [Waited, Region.binds, Is] at hd; refine looked_want ?_ ?_; (· (first | rfl | (simp [Region.wanted, yielded, hd]; done))); intro K hK; have hO2 := hO.grow hk; have hB2 := hO2.below; have hca := hO2.b0.cell; have hcb := hO2.b1.cell; go_wp2_with (go_at_call 123; (with_reducible refine (hm _).mono ?_); rintro e w3 ⟨rfl, hb3⟩); (try simp only [hd] at hK); refine hK _ _ ?_ rfl; first | exact Below.refl _ _ | exact hb3)) | (refine Lex.is (c := undef) ?_ ?_; · (intro u w' hk hd; simp [Waited, Region.binds, Is] at hd; refine looked_skip ?_ rfl; first | (simp [Region.wanted, yielded, hd]; done) | (simp [Region.wanted, yielded, hd, undef]; done))))
      apply Lex.nil
      intro u w' hk hd
      simp only [List.nil_append, List.cons_append] at hd
      have hlast := hd 30 _ rfl
      simp only [Is] at hlast
      clear hd
      simp only [hlast]
      clear hlast
      have hB3 := (hO.grow hk).below
      go_wp2_with fail
      go_ret
      exact ⟨by simp [HR.out], hB3⟩
     have f1 : decide (x1 < 0) = false := by simp; omega
     by_cases h2 : 16777214 < x1
     ·
      have f2 : decide (16777214 < x1) = true := by simp; omega
      clear hthere hbal
      have HR' := HR.out
      rw [if_pos (.inr (.inl h2))] at hstep
      rw [hstep, if_pos (by decide)] at HR'
      replace HR := Lib.hid HR'
      clear HR' hstep
      go_wp2
      generalize (wr.alloc (.cells #[.int .i64 x1, .int .i64 x2, .int .i64 x3] 93)) = W0 at hO1 ⊢
      replace hO := hO1
      apply wp_region_lex
      case hFl => intro u; simp only [List.map, fill, Act.put, List.setIfInBounds_toArray, List.set_cons_zero, List.set_cons_succ, Nat.reduceAdd, Nat.zero_add]; rfl
      case hm => kernel_rfl
      case hB => kernel_rfl
      case hap => kernel_rfl
      repeat (first | (apply Lex.is; · (intro u w' hk hd; simp [Waited, Region.binds, Is] at hd; refine looked_want ?_ ?_; (· (first | rfl | (simp [Region.wanted, yielded, hd]; done))); intro K hK; have hO2 := hO.grow hk; have hB2 := hO2.below; have hca := hO2.b0.cell; have hcb := hO2.b1.cell; go_wp2_with (go_at_call 123; (with_reducible refine (hm _).mono ?_); rintro e w3 ⟨rfl, hb3⟩); (try simp only [hd] at hK); refine hK _ _ ?_ rfl; first | exact Below.refl _ _ | exact hb3)) | (refine Lex.is (c := undef) ?_ ?_; · (intro u w' hk hd; simp [Waited, Region.binds, Is] at hd; refine looked_skip ?_ rfl; first | (simp [Region.wanted, yielded, hd]; done) | (simp [Region.wanted, yielded, hd, undef]; done))))
      apply Lex.nil
      intro u w' hk hd
      simp only [List.nil_append, List.cons_append] at hd
      have hlast := hd 30 _ rfl
      simp only [Is] at hlast
      clear hd
      simp only [hlast]
      clear hlast
      have hB3 := (hO.grow hk).below
      go_wp2_with fail
      go_ret
      exact ⟨by simp [HR.out], hB3⟩
     have f2 : decide (16777214 < x1) = false := by simp; omega
     cases th with
     | false =>
      clear hthere hbal
      have HR' := HR.out
      rw [if_pos (.inr (.inr (.inl rfl)))] at hstep
      rw [hstep, if_pos (by decide)] at HR'
      replace HR := Lib.hid HR'
      clear HR' hstep
      go_wp2
      generalize (wr.alloc (.cells #[.int .i64 x1, .int .i64 x2, .int .i64 x3] 93)) = W0 at hO1 ⊢
      replace hO := hO1
      apply wp_region_lex
      case hFl => intro u; simp only [List.map, fill, Act.put, List.setIfInBounds_toArray, List.set_cons_zero, List.set_cons_succ, Nat.reduceAdd, Nat.zero_add]; rfl
      case hm => kernel_rfl
      case hB => kernel_rfl
      case hap => kernel_rfl
      repeat (first | (apply Lex.is; · (intro u w' hk hd; simp [Waited, Region.binds, Is] at hd; refine looked_want ?_ ?_; (· (first | rfl | (simp [Region.wanted, yielded, hd]; done))); intro K hK; have hO2 := hO.grow hk; have hB2 := hO2.below; have hca := hO2.b0.cell; have hcb := hO2.b1.cell; go_wp2_with (go_at_call 123; (with_reducible refine (hm _).mono ?_); rintro e w3 ⟨rfl, hb3⟩); (try simp only [hd] at hK); refine hK _ _ ?_ rfl; first | exact Below.refl _ _ | exact hb3)) | (refine Lex.is (c := undef) ?_ ?_; · (intro u w' hk hd; simp [Waited, Region.binds, Is] at hd; refine looked_skip ?_ rfl; first | (simp [Region.wanted, yielded, hd]; done) | (simp [Region.wanted, yielded, hd, undef]; done))))
      apply Lex.nil
      intro u w' hk hd
      simp only [List.nil_append, List.cons_append] at hd
      have hlast := hd 30 _ rfl
      simp only [Is] at hlast
      clear hd
      simp only [hlast]
      clear hlast
      have hB3 := (hO.grow hk).below
      go_wp2_with fail
      go_ret
      exact ⟨by simp [HR.out], hB3⟩
     | true =>
     obtain ⟨i, rfl, hil, hie⟩ := hthere rfl
     clear hthere
     by_cases h4 : x3 < 0
     ·
      have f4 : decide (x3 < 0) = true := by simp; omega
      clear hbal
      have HR' := HR.out
      rw [if_pos (.inr (.inr (.inr (.inl h4))))] at hstep
      rw [hstep, if_pos (by decide)] at HR'
      replace HR := Lib.hid HR'
      clear HR' hstep
      go_wp2
      generalize (wr.alloc (.cells #[.int .i64 x1, .int .i64 i, .int .i64 x3] 93)) = W0 at hO1 ⊢
      replace hO := hO1
      apply wp_region_lex
      case hFl => intro u; simp only [List.map, fill, Act.put, List.setIfInBounds_toArray, List.set_cons_zero, List.set_cons_succ, Nat.reduceAdd, Nat.zero_add]; rfl
      case hm => kernel_rfl
      case hB => kernel_rfl
      case hap => kernel_rfl
      repeat (first | (apply Lex.is; · (intro u w' hk hd; simp [Waited, Region.binds, Is] at hd; refine looked_want ?_ ?_; (· (first | rfl | (simp [Region.wanted, yielded, hd]; done))); intro K hK; have hO2 := hO.grow hk; have hB2 := hO2.below; have hca := hO2.b0.cell; have hcb := hO2.b1.cell; go_wp2_with (go_at_call 123; (with_reducible refine (hm _).mono ?_); rintro e w3 ⟨rfl, hb3⟩); (try simp only [hd] at hK); refine hK _ _ ?_ rfl; first | exact Below.refl _ _ | exact hb3)) | (refine Lex.is (c := undef) ?_ ?_; · (intro u w' hk hd; simp [Waited, Region.binds, Is] at hd; refine looked_skip ?_ rfl; first | (simp [Region.wanted, yielded, hd]; done) | (simp [Region.wanted, yielded, hd, undef]; done))))
      apply Lex.nil
      intro u w' hk hd
      simp only [List.nil_append, List.cons_append] at hd
      have hlast := hd 30 _ rfl
      simp only [Is] at hlast
      clear hd
      simp only [hlast]
      clear hlast
      have hB3 := (hO.grow hk).below
      go_wp2_with fail
      go_ret
      exact ⟨by simp [HR.out], hB3⟩
     have f4 : decide (x3 < 0) = false := by simp; omega
     obtain ⟨ge, offe, hge, hgb, c0⟩ := h.lies.edges.int hil
     have ke0 := fun W (hW : Below w.heap.size w W) => (hW.cell (p := ⟨ge, offe + i, none⟩) hgb).trans c0
     have hin : i < m.n1 := by have := h.e1; omega
     rw [hie] at hstep
     clear c0 hie hil
     generalize t.edges[i]! = ev at *
     simp only [hge] at hO1 hcm hcl hO hm ⊢
     by_cases h5 : ev < x3
     ·
      have f5 : decide (ev < x3) = true := by simp; omega
      clear hbal
      have HR' := HR.out
      rw [if_pos (.inr (.inr (.inr (.inr h5))))] at hstep
      rw [hstep, if_pos (by decide)] at HR'
      replace HR := Lib.hid HR'
      clear HR' hstep
      go_wp2
      generalize (wr.alloc (.cells #[.int .i64 x1, .int .i64 i, .int .i64 x3] 93)) = W0 at hO1 ⊢
      replace hO := hO1
      apply wp_region_lex
      case hFl => intro u; simp only [List.map, fill, Act.put, List.setIfInBounds_toArray, List.set_cons_zero, List.set_cons_succ, Nat.reduceAdd, Nat.zero_add]; rfl
      case hm => kernel_rfl
      case hB => kernel_rfl
      case hap => kernel_rfl
      repeat (first | (apply Lex.is; · (intro u w' hk hd; simp [Waited, Region.binds, Is] at hd; refine looked_want ?_ ?_; (· (first | rfl | (simp [Region.wanted, yielded, hd]; done))); intro K hK; have hO2 := hO.grow hk; have hB2 := hO2.below; have hca := hO2.b0.cell; have hcb := hO2.b1.cell; have ke1 := ke0 _ hB2; go_wp2_with (go_at_call 123; (with_reducible refine (hm _).mono ?_); rintro e w3 ⟨rfl, hb3⟩); (try simp only [hd] at hK); refine hK _ _ ?_ rfl; first | exact Below.refl _ _ | exact hb3)) | (refine Lex.is (c := undef) ?_ ?_; · (intro u w' hk hd; simp [Waited, Region.binds, Is] at hd; refine looked_skip ?_ rfl; first | (simp [Region.wanted, yielded, hd]; done) | (simp [Region.wanted, yielded, hd, undef]; done))))
      apply Lex.nil
      intro u w' hk hd
      simp only [List.nil_append, List.cons_append] at hd
      have hlast := hd 30 _ rfl
      simp only [Is] at hlast
      clear hd
      simp only [hlast]
      clear hlast
      have hB3 := (hO.grow hk).below
      go_wp2_with fail
      go_ret
      exact ⟨by simp [HR.out], hB3⟩
     have f5 : decide (ev < x3) = false := by simp; omega
     rw [if_neg (by simp; omega)] at hstep
     have hbs : (balT ⟨[], [], t.bals.take k, []⟩ x1).isSome = (t.bals.take k).any (fun x => decide (x.id = x1)) := find_any _ _
     generalize hb0 : (balT ⟨[], [], t.bals.take k, []⟩ x1).getD ⟨0, 0, 0⟩ = b0 at *
     obtain ⟨y1, y2, y3⟩ := b0
     rw [← hbs] at hstep
     clear hb0 hbs
     generalize (balT ⟨[], [], t.bals.take k, []⟩ x1).isSome = fd at *
     go_wp2
     generalize (wr.alloc (.cells #[.int .i64 x1, .int .i64 i, .int .i64 x3] 93)) = W0 at hO1 ⊢
     replace hO := hO1
     clear hcm hcn hcl hO1
     apply wp_region_lex
     case hFl => intro u; simp only [List.map, fill, Act.put, List.setIfInBounds_toArray, List.set_cons_zero, List.set_cons_succ, Nat.reduceAdd, Nat.zero_add]; rfl
     case hm => kernel_rfl
     case hB => kernel_rfl
     case hap => kernel_rfl
     repeat (first | (apply Lex.is; · (intro u w' hk hd; simp [Waited, Region.binds, Is] at hd; refine looked_want ?_ ?_; (· (first | rfl | (simp [Region.wanted, yielded, hd]; done))); intro K hK; have hO2 := hO.grow hk; have hB2 := hO2.below; have hca := hO2.b0.cell; have hcb := hO2.b1.cell; have ke1 := ke0 _ hB2; go_wp2_with (go_at_call 123; (with_reducible refine (hm _).mono ?_); rintro e w3 ⟨rfl, hb3⟩); (try simp only [hd] at hK); refine hK _ _ ?_ rfl; first | exact Below.refl _ _ | exact hb3)) | (refine Lex.is (c := undef) ?_ ?_; · (intro u w' hk hd; simp [Waited, Region.binds, Is] at hd; refine looked_skip ?_ rfl; first | (simp [Region.wanted, yielded, hd]; done) | (simp [Region.wanted, yielded, hd, undef]; done))))
     apply Lex.nil
     intro u w' hk hd
     simp only [List.nil_append, List.cons_append] at hd
     have hlast := hd 30 _ rfl
     simp only [Is] at hlast
     clear hd
     simp only [hlast]
     clear hlast
     replace hO := hO.grow hk
     clear hk
     go_wp2_with fail
     apply wp_region_lextu (Below (w').heap.size) (fun W => below_drewN (Below.refl _ _) 1) (fun _ _ _ h1 h2 => h1.trans h2) (WaysB (w').heap.size 12) (fun _ _ _ h => h.1) (fun _ _ => waysB_same _ _ _ _) (fun _ _ => True) (fun _ => trivial) (fun _ _ _ _ _ _ _ => trivial)
     case hFl =>
      intro u
      simp only [List.map, fill, Act.put, List.setIfInBounds_toArray, List.set_cons_zero, List.set_cons_succ, Nat.reduceAdd, Nat.zero_add]
      rfl
     case hm => kernel_rfl
     case hB => kernel_rfl
     case hA => kernel_rfl
     case hap => kernel_rfl
     repeat (first
      |(
        apply LexTU.is
        ·
         (
         intro u w' hk hpre hd
         simp [WaitedU, Region.binds, Own1, Is] at hd
         refine lookedT_want ?_ ?_
         ·
          first
          | rfl
          |(simp [Region.wanted, yielded, hd]; done)
         intro K hK
         have hO2 := hO.grow hk; have hB2 := hO2.below; have hca := hO2.b0.cell; have hcb := hO2.b1.cell
         go_wp2_with (go_at_call 50; (with_reducible refine (hbal _ hB2).mono ?_); rintro e w3 ⟨rfl, hb3⟩)
         try simp only [hd] at hK
         refine hK _ _ ?_ rfl
         first | exact waysB_same _ _ _ _ | exact waysB_below hk.size hb3 (by decide)))
      |(
        refine LexTU.one (BoxB (w').heap.size 93 (#[.int .i64 0, .int .i64 0, .int .i64 0] : Array Value).size) ?_ ?_
        ·
         (
         intro u w' hk hpre hd
         clear hd
         refine lookedT_want ?_ ?_
         ·
          first
          | rfl
          |(simp [Region.wanted, yielded]; done)
         intro K hK
         go_wp2_with fail
         exact hK _ _ (waysB_below hk.size ((Below.refl _ _).alloc (Nat.le_refl _) _) (by decide)) ⟨w'.heap.size, _, rfl, hk.size, Blk.new w' 93 (#[.int .i64 0, .int .i64 0, .int .i64 0] : Array Value), rfl⟩))
      |(
        refine LexTU.word (FullB (w').heap.size 11 93 (#[.int .i64 y1, .int .i64 y2, .int .i64 y3])) ?_ ?_
        ·
         (
         intro u w' hk hpre hd
         simp [WaitedU, Region.binds, Own1, Is] at hd
         obtain ⟨⟨g, cs, hpg, hg, hbk, hsz⟩, hx⟩ := hd
         refine lookedU_want ?_ ?_
         ·
          first
          | rfl
          |(simp [Region.wanted, yielded]; done)
         intro K hK
         have hfar : ∀ k, k ≠ g → (w'.setRow g (#[.int .i64 y1, .int .i64 y2, .int .i64 y3])).heap[k]? = w'.heap[k]? := fun k hk => setRow_other w' g k _ hk
         exact wp_store_row 93 _ _ rfl g (#[.int .i64 y1, .int .i64 y2, .int .i64 y3]) (by first | exact hpg | (rw [← hpg]; rfl)) (by first | exact hx | exact hx.1 | (rw [← hx.1]; rfl) | (rw [← hx]; rfl)) 93 cs hbk (by kernel_rfl) hsz (by simp [Value.oneCell']) (hK undef _
          ⟨below_row (Below.refl _ _) hg _, fun h => absurd rfl h, fun _ => .inr ⟨g, _, cs, (#[.int .i64 y1, .int .i64 y2, .int .i64 y3]), hbk, hbk.row _, hsz.symm, by simp, hfar⟩⟩
          ⟨g, by rw [upd_other u undef (by decide)]; exact hpg, hg, hbk.row _⟩))))
     refine LexTU.last (stB_last ?_) ?_
     ·
      simp only [List.nil_append, List.cons_append]
      repeat (refine ⟨?_, ?_⟩; · first | exact stableB_is _ | exact stableB_box | exact stableB_full (fun i hf e => hf _ rfl ⟨11, .data⟩ (by simp) rfl e.symm))
      exact trivial
     intro u w2 hk2 _ hd
     simp only [List.nil_append, List.cons_append] at hd
     refine ⟨rfl, ?_⟩
     intro K hK
     obtain ⟨gb, hu11, hgb2, hbk⟩ := hd 12 _ rfl
     have hu10 := hd 10 _ rfl
     simp only [Own1, Is] at hu10
     clear hd
     have hO3 := hO.grow hk2
     clear hbk hgb2
     simp only [hu10]
     clear hu10
     cases fd with
     | true =>
      have HR' := HR.out
      rw [if_pos rfl] at hstep
      rw [hstep, if_pos (by decide)] at HR'
      replace HR := Lib.hid HR'
      clear HR' hstep
      go_wp2_with fail
      go_ret
      exact ⟨by simp [HR.out], hO3.below⟩
     | false =>
      rw [if_neg (by simp)] at hstep
      have HAP := Lib.hid hstep
      clear hstep
      go_wp2_with fail
      go_roundw
      case rel => exact ⟨k + 1, by go_num, by omega, HAP, ⟨hO3.below, fun x hx => hO3.blk x (by simp at hx; rcases hx with rfl | rfl <;> simp), by simp⟩⟩
      case measure => simp [intOf]; omega
    ·
     obtain rfl : k = m.n3 := by omega
     have hj0 : balsE t [] t.bals = 0 := by
      rw [hap.out, List.drop_of_length_le (by rw [h.e3]; exact Nat.le_refl _), balsE.eq_def]
     have HR' := HR.out
     rw [if_neg (by rw [hj0]; simp)] at HR'
     replace HR := Lib.hid HR'
     clear HR' hj0 hap
     have hcl := hO.b0.cell
     go_wp2_with fail
     clear hcl
     go_loopw [132] (fun i wr => ∃ k : Nat, i = .int .i64 k ∧ k ≤ m.n4 ∧ Hid (routesE t [] t.routes = routesE t (t.routes.take k) (t.routes.drop k)) ∧ Own w wr [(w.heap.size, 27, #[.slice m.A1 m.n1 m.c1, .slice m.A2 m.n2 m.c2, .slice m.A3 m.n3 m.c3, .slice m.A4 m.n4 m.c4])]) (fun i _ => m.n4 - (intOf i).toNat)
     case atStart => exact ⟨0, rfl, Nat.zero_le _, Lib.hid (by simp), hO⟩
     case round =>
      clear hO
      obtain ⟨k, rfl, hk, hap, hO⟩ := hrel
      by_cases hlt : k < m.n4
      ·
       have hlen : m.rs.length = m.n4 := by rw [← h.e4, ← h.lies.is, List.length_map]
       obtain ⟨p, hp⟩ := get_some hlen hlt
       have hr : t.routes[k]? = some p.1 := by rw [← h.lies.is, List.getElem?_map, hp]; rfl
       obtain ⟨g, off, hA4, hg, a0, a1, a2, a3⟩ := h.lies.routes.rt hp
       have hpath := h.lies.paths p (List.mem_of_getElem? hp)
       have hpl : p.1.path.length ≤ 100 := h.l5 _ (List.mem_of_getElem? hr)
       have hpc : p.1.path.length ≤ p.2.2 := h.q5 _ (List.mem_of_getElem? hp)
       have kk0 := (hO.below.cell (p := ⟨g, off + k * 4, none⟩) hg).trans a0
       have kk1 := (hO.below.cell (p := ⟨g, off + k * 4 + 1, none⟩) hg).trans a1
       have kk2 := (hO.below.cell (p := ⟨g, off + k * 4 + 2, none⟩) hg).trans a2
       have kk3 := (hO.below.cell (p := ⟨g, off + k * 4 + 3, none⟩) hg).trans a3
       have hstep := routes_step (t := t) hr
       rw [← hap.out] at hstep
       have hro := fun W (hW : Below w.heap.size w W) => routed_m (h.below hW) p.1 p.2.1 p.1.path.length p.2.2 (hpath.below hW) rfl hpl hpc
       have hrt := fun W (hW : Below w.heap.size w W) => route_ok (sub_routes (h.below hW) k hk) p.1.id
       have hbs : (routeT ⟨[], [], [], t.routes.take k⟩ p.1.id).isSome = (t.routes.take k).any (fun x => decide (x.id = p.1.id)) := find_any _ _
       rw [← hbs] at hstep
       obtain ⟨⟨x1, x2, x3, x4⟩, Ap, cp⟩ := p
       simp only [TpM.cells, hA4] at hO hro hrt kk0 kk1 kk2 kk3 hstep ⊢
       generalize x2.length = np at *
       generalize (routeT ⟨[], [], [], t.routes.take k⟩ x1).isSome = fd at *
       generalize routedE t ⟨x1, x2, x3, x4⟩ = re at *
       have hO1 := Own.new1 hO 97 #[.int .i64 x1, .slice Ap np cp, .int .i64 x3, .int .i64 x4]
       have hcm := hO1.b0.cell
       have hcn := hO1.b1.cell
       have hcl := hO.b0.cell
       clear hr hp a0 a1 a2 a3 hbs hpath hlen
       by_cases h1 : re = 0
       ·
        subst h1
        rw [if_neg (by simp)] at hstep
        go_wp2_with (first
         |(go_at_call 124; (with_reducible refine (hro _ hO1.below).mono ?_); rintro e w1 ⟨rfl, hb1⟩; replace hO := hO1.grow hb1; have hcl1 := hO.b0.cell; have hcr1 := hO.b1.cell))
        clear hcm hcn hcl hO1
        apply wp_region_lextu (Below (w1).heap.size) (fun W => below_drewN (Below.refl _ _) 1) (fun _ _ _ h1 h2 => h1.trans h2) (WaysB (w1).heap.size 12) (fun _ _ _ h => h.1) (fun _ _ => waysB_same _ _ _ _) (fun _ _ => True) (fun _ => trivial) (fun _ _ _ _ _ _ _ => trivial)
        case hFl =>
         intro u
         simp only [List.map, fill, Act.put, List.setIfInBounds_toArray, List.set_cons_zero, List.set_cons_succ, Nat.reduceAdd, Nat.zero_add]
         rfl
        case hm => kernel_rfl
        case hB => kernel_rfl
        case hA => kernel_rfl
        case hap => kernel_rfl
        repeat (first
         |(
           apply LexTU.is
           ·
            (
            intro u w' hk hpre hd
            simp [WaitedU, Region.binds, Own1, Is] at hd
            refine lookedT_want ?_ ?_
            ·
             first
             | rfl
             |(simp [Region.wanted, yielded, hd]; done)
            intro K hK
            have hO2 := hO.grow hk; have hB2 := hO2.below; have hca := hO2.b0.cell; have hcb := hO2.b1.cell
            go_wp2_with (go_at_call 76; (with_reducible refine (hrt _ hB2).mono ?_); rintro e w3 ⟨⟨x, rfl, hxs, hxo⟩, hb3⟩)
            try simp only [hd] at hK
            refine hK _ _ ?_ rfl
            first | exact waysB_same _ _ _ _ | exact waysB_below hk.size hb3 (by decide)))
         |(
           refine LexTU.one (BoxB (w1).heap.size 97 (#[.int .i64 0, .slice none 0 0, .int .i64 0, .int .i64 0] : Array Value).size) ?_ ?_
           ·
            (
            intro u w' hk hpre hd
            clear hd
            refine lookedT_want ?_ ?_
            ·
             first
             | rfl
             |(simp [Region.wanted, yielded]; done)
            intro K hK
            go_wp2_with fail
            exact hK _ _ (waysB_below hk.size ((Below.refl _ _).alloc (Nat.le_refl _) _) (by decide)) ⟨w'.heap.size, _, rfl, hk.size, Blk.new w' 97 (#[.int .i64 0, .slice none 0 0, .int .i64 0, .int .i64 0] : Array Value), rfl⟩))
         |(
           refine LexTU.one (PureW (TupB (#[.int .i64 0, .slice none 0 0, .int .i64 0, .int .i64 0] : Array Value).size fd)) ?_ ?_
           ·
            (
            intro u w' hk hpre hd
            simp [WaitedU, Region.binds, Own1, Is] at hd
            refine lookedT_want ?_ ?_
            ·
             first
             | rfl
             |(simp [Region.wanted, yielded, hd]; done)
            intro K hK
            have hO2 := hO.grow hk; have hB2 := hO2.below; have hca := hO2.b0.cell; have hcb := hO2.b1.cell
            go_wp2_with (go_at_call 76; (with_reducible refine (hrt _ hB2).mono ?_); rintro e w3 ⟨⟨x, rfl, hxs, hxo⟩, hb3⟩)
            try simp only [hd] at hK
            exact hK _ _ (waysB_below hk.size hb3 (by decide)) ⟨_, rfl, by first | rfl | assumption, by first | rfl | assumption⟩))
         |(
           refine LexTU.one (PureW (TupB (#[.int .i64 0, .slice none 0 0, .int .i64 0, .int .i64 0] : Array Value).size fd)) ?_ ?_
           ·
            (
            intro u w' hk hpre hd
            simp [WaitedU, Region.binds, Own1, Is] at hd
            obtain ⟨x, hx, hxs, hxo⟩ := hd
            refine lookedT_want ?_ ?_
            ·
             first
             | rfl
             |(simp [Region.wanted, yielded, hx]; done)
            intro K hK
            go_wp2_with fail
            try simp only [hx] at hK
            exact hK _ _ (waysB_same _ _ _ _) ⟨x, by first | rfl | exact hx, hxs, hxo⟩))
         |(
           refine LexTU.one (PureW (AggB (#[.int .i64 0, .slice none 0 0, .int .i64 0, .int .i64 0] : Array Value).size)) ?_ ?_
           ·
            (
            intro u w' hk hpre hd
            simp [WaitedU, Region.binds, Own1, Is] at hd
            obtain ⟨x, hx, hxs, hxo⟩ := hd
            refine lookedT_want ?_ ?_
            ·
             first
             | rfl
             |(simp [Region.wanted, yielded, hx]; done)
            intro K hK
            go_wp2_with fail
            try simp only [hx] at hK
            exact hK _ _ (waysB_same _ _ _ _) ⟨x, rfl, hxs, hxo⟩))
         |(
           apply LexTU.is
           ·
            (
            intro u w' hk hpre hd
            simp [WaitedU, Region.binds, Own1, Is] at hd
            obtain ⟨x, hx, hxs, hxo⟩ := hd
            refine lookedT_want ?_ ?_
            ·
             first
             | rfl
             |(simp [Region.wanted, yielded, hx]; done)
            intro K hK
            go_wp2_with fail
            try simp only [hx] at hK
            refine hK _ _ (waysB_same _ _ _ _) rfl))
         |(
           refine LexTU.word AnyW ?_ ?_
           ·
            (
            intro u w' hk hpre hd
            simp [WaitedU, Region.binds, Own1, Is] at hd
            obtain ⟨⟨g, cs, hpg, hg, hbk, hsz⟩, hx⟩ := hd
            obtain ⟨x, hx, hxs, hxo⟩ : AggB (#[.int .i64 0, .slice none 0 0, .int .i64 0, .int .i64 0] : Array Value).size _ := by first | exact hx | exact hx.1
            refine lookedU_want ?_ ?_
            ·
             first
             | rfl
             |(simp [Region.wanted, yielded]; done)
            intro K hK
            have hfar : ∀ k, k ≠ g → (w'.setRow g x).heap[k]? = w'.heap[k]? := fun k hk => setRow_other w' g k _ hk
            exact wp_store_row 97 _ _ rfl g x (by first | exact hpg | (rw [← hpg]; rfl)) (by first | exact hx | (rw [← hx]; rfl)) 97 cs hbk (by rw [hxs]; kernel_rfl) (hsz.trans hxs.symm) hxo (hK undef _
             ⟨below_row (Below.refl _ _) hg _, fun h => absurd rfl h, fun _ => .inr ⟨g, _, cs, x, hbk, hbk.row _, hxs.trans hsz.symm, by simp, hfar⟩⟩
             trivial))))
        refine LexTU.last (stB_last ?_) ?_
        ·
         simp only [List.nil_append, List.cons_append]
         repeat (refine ⟨?_, ?_⟩; · first | exact stableB_is _ | exact stableB_box | exact stableB_pure _ | exact stableB_any | exact stableB_full (fun i hf e => hf _ rfl ⟨11, .data⟩ (by simp) rfl e.symm))
         exact trivial
        intro u w2 hk2 _ hd
        simp only [List.nil_append, List.cons_append] at hd
        refine ⟨rfl, ?_⟩
        intro K hK
        have hu10 := hd 10 _ rfl
        simp only [Own1, Is] at hu10
        clear hd
        have hO3 := hO.grow hk2
        simp only [hu10]
        clear hu10
        cases fd with
        | true =>
         have HR' := HR.out
         rw [if_pos rfl] at hstep
         rw [hstep] at HR'
         replace HR := Lib.hid HR'
         clear HR' hstep
         go_wp2_with fail
         go_ret
         exact ⟨by simp [HR.out], hO3.below⟩
        | false =>
         rw [if_neg (by simp)] at hstep
         have HAP := Lib.hid hstep
         clear hstep
         go_wp2_with fail
         go_roundw
         case rel => exact ⟨k + 1, by go_num, by omega, HAP, ⟨hO3.below, fun x hx => hO3.blk x (by simp at hx; rcases hx with rfl | rfl <;> simp), by simp⟩⟩
         case measure => simp [intOf]; omega
       ·
        have HR' := HR.out
        rw [if_pos h1] at hstep
        rw [hstep] at HR'
        replace HR := Lib.hid HR'
        have hne : (re != 0) = true := by simpa using h1
        clear HR' hstep h1
        go_wp2_with (first
         |(go_at_call 124; (with_reducible refine (hro _ hO1.below).mono ?_); rintro e w1 ⟨rfl, hb1⟩; replace hO := hO1.grow hb1))
        go_ret
        exact ⟨by simp [HR.out], hO.below⟩
      ·
       obtain rfl : k = m.n4 := by omega
       have hj0 : routesE t [] t.routes = 0 := by
        rw [hap.out, List.drop_of_length_le (by rw [h.e4]; exact Nat.le_refl _), routesE.eq_def]
       have HR' := HR.out
       rw [hj0] at HR'
       replace HR := Lib.hid HR'
       clear HR' hj0 hap
       go_wp2_with fail
       go_ret
       exact ⟨by simp [HR.out], hO.below⟩
end Go.Proofs.YtkaggddmhjifjaaGreatDoor
