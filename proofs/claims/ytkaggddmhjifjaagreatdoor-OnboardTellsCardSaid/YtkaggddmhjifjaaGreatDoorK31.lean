/- Texts in one: DocCheck. -/
import Derived.Test.YtkaggddmhjifjaaGreatDoorK30
import Derived.Test.YtkaggddmhjifjaaGreatDoorK10
set_option linter.unusedSimpArgs false
set_option linter.unusedVariables false
namespace Go.Proofs.YtkaggddmhjifjaaGreatDoor
open Go.RowKit Go.Shelf
theorem anyI_take {l : List Int} {q : Int → Bool} {k : Nat} (h : k < l.length) : (l.take (k + 1)).any q = ((l.take k).any q || q l[k]!) := by
 rw [getElem!_pos l k h, take_snoc' (List.getElem?_eq_getElem h), List.any_append]
 simp
theorem anyI_mono {α : Type} {l : List α} {q : α → Bool} {k : Nat} (h : (l.take k).any q = true) : l.any q = true := by
 rw [List.any_eq_true] at h ⊢
 obtain ⟨x, hx, hd⟩ := h
 exact ⟨x, List.mem_of_mem_take hx, hd⟩
theorem anyK_take {α : Type} {l : List α} {q : α → Bool} {k : Nat} {x : α} (h : l[k]? = some x) : (l.take (k + 1)).any q = ((l.take k).any q || q x) := by
 rw [take_snoc' h, List.any_append]
 simp
theorem anyK_mono {α : Type} {l : List α} {q : α → Bool} {k i : Nat} (hk : k ≤ i) (h : (l.take k).any q = true) : (l.take i).any q = true := by
 have : l.take k = (l.take i).take k := by rw [List.take_take, Nat.min_eq_left hk]
 rw [this] at h
 exact anyI_mono h
theorem Own.less1 {w W : World} {x y : Bk} (h : Own w W [x, y]) : Own w W [x] := ⟨h.below, fun z hz => h.blk z (by simp at hz; simp [hz]), by simp⟩
set_option maxRecDepth 8000 in
set_option maxHeartbeats 32000000 in
theorem rcheck_m {w : World} {t : Tp} {m : TpM} (h : TpIs w t m) : Calls Tryz.prog 111 #[.agg m.cells] w fun e w' => e = .returned (.int .i64 (checkT t)) ∧ Below w.heap.size w w' := by
 have hO : Own w _ [_] := (Own.nil w).alloc 27 m.cells _ rfl
 have hcl := hO.b0.cell
 have hr := check_is h
 have hl1 := h.l1
 have hl2 := h.l2
 have hl3 := h.l3
 have hl4 := h.l4
 have hq2 := h.q2
 have HE1 := Lib.hid h.e1
 have HR := Lib.hid hr
 clear hr
 unfold TpM.cells at *
 by_cases h1 : 40 < m.n1
 ·
  have hbad : 40 < m.n1 ∨ 80 < m.n2 ∨ 80 < m.n3 ∨ 30 < m.n4 := .inl h1
  have e1 : decide (40 < (m.n1 : Int)) = true := by simp; omega
  have HR' := HR.out
  rw [if_pos hbad] at HR'
  replace HR := Lib.hid HR'
  clear HR'
  go_enter Tryz.func111, Tryz.ntmps111
  go_wp2
  go_ret
  exact ⟨by simp [HR.out], hO.below⟩
 have e1 : decide (40 < (m.n1 : Int)) = false := by simp; omega
 by_cases h2 : 80 < m.n2
 ·
  have hbad : 40 < m.n1 ∨ 80 < m.n2 ∨ 80 < m.n3 ∨ 30 < m.n4 := .inr (.inl h2)
  have e2 : decide (80 < (m.n2 : Int)) = true := by simp; omega
  have HR' := HR.out
  rw [if_pos hbad] at HR'
  replace HR := Lib.hid HR'
  clear HR'
  go_enter Tryz.func111, Tryz.ntmps111
  go_wp2
  go_ret
  exact ⟨by simp [HR.out], hO.below⟩
 have e2 : decide (80 < (m.n2 : Int)) = false := by simp; omega
 by_cases h3 : 80 < m.n3
 ·
  have hbad : 40 < m.n1 ∨ 80 < m.n2 ∨ 80 < m.n3 ∨ 30 < m.n4 := .inr (.inr (.inl h3))
  have e3 : decide (80 < (m.n3 : Int)) = true := by simp; omega
  have HR' := HR.out
  rw [if_pos hbad] at HR'
  replace HR := Lib.hid HR'
  clear HR'
  go_enter Tryz.func111, Tryz.ntmps111
  go_wp2
  go_ret
  exact ⟨by simp [HR.out], hO.below⟩
 have e3 : decide (80 < (m.n3 : Int)) = false := by simp; omega
 by_cases h4 : 30 < m.n4
 ·
  have hbad : 40 < m.n1 ∨ 80 < m.n2 ∨ 80 < m.n3 ∨ 30 < m.n4 := .inr (.inr (.inr h4))
  have e4 : decide (30 < (m.n4 : Int)) = true := by simp; omega
  have HR' := HR.out
  rw [if_pos hbad] at HR'
  replace HR := Lib.hid HR'
  clear HR'
  go_enter Tryz.func111, Tryz.ntmps111
  go_wp2
  go_ret
  exact ⟨by simp [HR.out], hO.below⟩
 have e4 : decide (30 < (m.n4 : Int)) = false := by simp; omega
 have HR' := HR.out
 rw [if_neg (by omega)] at HR'
 replace HR := Lib.hid HR'
 clear HR' h1 h2 h3 h4
 go_enter Tryz.func111, Tryz.ntmps111
 go_wp2
 clear e1 e2 e3 e4 hcl
 go_loopw [3] (fun x wr => ∃ k : Nat, x = .int .i64 k ∧ k ≤ m.n1 ∧ Hid ((t.edges.take k).any (fun n => decide (n < 1) || decide (1000000 < n)) = false) ∧ Own w wr [(w.heap.size, 27, #[.slice m.A1 m.n1 m.c1, .slice m.A2 m.n2 m.c2, .slice m.A3 m.n3 m.c3, .slice m.A4 m.n4 m.c4])]) (fun x _ => m.n1 - (intOf x).toNat)
 case atStart => exact ⟨0, rfl, Nat.zero_le _, Lib.hid rfl, hO⟩
 case round =>
  clear hO
  obtain ⟨i, rfl, hi, hap, hO⟩ := hrel
  have hcl := hO.b0.cell
  by_cases hlt : i < m.n1
  ·
   have hdc : decide ((i : Int) < (m.n1 : Int)) = true := by simpa using hlt
   have hil : i < t.edges.length := by rw [HE1.out]; exact hlt
   obtain ⟨g, off, hA1, hg, a0⟩ := h.lies.edges.int hil
   have k0 := (hO.below.cell (p := ⟨g, off + i, none⟩) hg).trans a0
   have hst := anyI_take (q := fun n => decide (n < 1) || decide (1000000 < n)) hil
   rw [hap.out, Bool.false_or] at hst
   clear a0 hap hil
   generalize t.edges[i]! = ev at *
   simp only [hA1] at hO hcl ⊢
   by_cases h1 : ev < 1
   ·
    have f1 : decide (ev < 1) = true := by simpa using h1
    have HR' := HR.out
    rw [if_pos (anyI_mono (hst.trans (by simp [f1])))] at HR'
    replace HR := Lib.hid HR'
    clear HR' hst
    go_wp2_with fail
    go_ret
    exact ⟨by simp [HR.out], hO.below⟩
   have f1 : decide (ev < 1) = false := by simpa using h1
   by_cases h2 : 1000000 < ev
   ·
    have f2 : decide (1000000 < ev) = true := by simpa using h2
    have HR' := HR.out
    rw [if_pos (anyI_mono (hst.trans (by simp [f2])))] at HR'
    replace HR := Lib.hid HR'
    clear HR' hst
    go_wp2_with fail
    go_ret
    exact ⟨by simp [HR.out], hO.below⟩
   have f2 : decide (1000000 < ev) = false := by simpa using h2
   rw [f1, f2] at hst
   have HST := Lib.hid hst
   clear hst
   go_wp2_with fail
   go_roundw
   case rel => exact ⟨i + 1, by go_num, by omega, HST, hO⟩
   case measure => simp [intOf]; omega
  ·
   obtain rfl : i = m.n1 := by omega
   have hdc : decide ((m.n1 : Int) < (m.n1 : Int)) = false := by simp
   have hno := hap.out
   rw [List.take_of_length_le (by rw [HE1.out]; exact Nat.le_refl _)] at hno
   have hed : ∀ n ∈ t.edges, 1 ≤ n ∧ n ≤ 1000000 := fun n hn => by
    have := List.any_eq_false.1 hno n hn
    simp only [Bool.or_eq_true, decide_eq_true_eq] at this
    omega
   have HED := Lib.hid hed
   have HR' := HR.out
   rw [if_neg (by rw [hno]; simp)] at HR'
   replace HR := Lib.hid HR'
   clear HR' hno hap hed
   go_wp2_with fail
   clear hdc hcl hlt
   go_loopw [4] (fun x wr => ∃ k : Nat, x = .int .i64 k ∧ k ≤ m.n2 ∧ Hid (jointsE t [] t.joints = jointsE t (t.joints.take k) (t.joints.drop k)) ∧ Own w wr [(w.heap.size, 27, #[.slice m.A1 m.n1 m.c1, .slice m.A2 m.n2 m.c2, .slice m.A3 m.n3 m.c3, .slice m.A4 m.n4 m.c4])]) (fun x _ => m.n2 - (intOf x).toNat)
   case atStart => exact ⟨0, rfl, Nat.zero_le _, Lib.hid (by simp), hO⟩
   case round =>
    clear hO hi
    obtain ⟨k, rfl, hk, hap, hO⟩ := hrel
    have hcl := hO.b0.cell
    by_cases hlt : k < m.n2
    ·
     have hdc : decide ((k : Int) < (m.n2 : Int)) = true := by simpa using hlt
     obtain ⟨j, hj⟩ := get_some h.e2 hlt
     obtain ⟨g, off, hA2, hg, a0, a1, a2, a3⟩ := h.lies.joints.jt hj
     have k0 := fun W (hW : Below w.heap.size w W) => (hW.cell (p := ⟨g, off + k * 4, none⟩) hg).trans a0
     have k1 := fun W (hW : Below w.heap.size w W) => (hW.cell (p := ⟨g, off + k * 4 + 1, none⟩) hg).trans a1
     have k2 := fun W (hW : Below w.heap.size w W) => (hW.cell (p := ⟨g, off + k * 4 + 2, none⟩) hg).trans a2
     have k3 := fun W (hW : Below w.heap.size w W) => (hW.cell (p := ⟨g, off + k * 4 + 3, none⟩) hg).trans a3
     have hstep := joints_step (t := t) hj
     rw [← hap.out] at hstep
     have hea := fun W => rend_m h j.a W
     have heb := fun W => rend_m h j.b W
     have hjo := fun W (hW : Below w.heap.size w W) => rjoined_k m.A2 k m.c2 (t.joints.take k) j.a j.b W ((h.lies.joints.part k).below hW) (by rw [List.length_take, h.e2]; omega) (by omega)
     simp only [TpM.cells, hA2] at hO hcl hea heb hjo ⊢
     obtain ⟨⟨x1, x2⟩, ⟨x3, x4⟩⟩ := j
     simp only at hea heb hjo k0 k1 k2 k3 hstep
     have heq := run_eql_en ⟨x1, x2⟩ ⟨x3, x4⟩
     clear hj a0 a1 a2 a3 hap
     generalize endT t ⟨x1, x2⟩ = ea at *
     generalize endT t ⟨x3, x4⟩ = eb at *
     generalize joinsT (t.joints.take k) ⟨x1, x2⟩ ⟨x3, x4⟩ = jo at *
     obtain ⟨sm, hsm⟩ : ∃ b, b = decide ((⟨x1, x2⟩ : En) = ⟨x3, x4⟩) := ⟨_, rfl⟩
     rw [← hsm] at heq
     have hstep' : jointsE t [] t.joints = if ea = false ∨ eb = false ∨ sm = true then 1 else if jo = true then 5 else jointsE t (t.joints.take (k + 1)) (t.joints.drop (k + 1)) := by
      rw [hstep, hsm]
      simp
     simp only [enV] at hea heb hjo heq
     have HSP := Lib.hid hstep'
     clear hstep hsm hstep'
     go_wp2_with fail
     clear hcl hdc
     apply wp_region_lex
     case hFl => intro u; simp only [List.map, fill, Act.put, List.setIfInBounds_toArray, List.set_cons_zero, List.set_cons_succ, Nat.reduceAdd, Nat.zero_add]; rfl
     case hm => kernel_rfl
     case hB => kernel_rfl
     case hap => kernel_rfl
     repeat (first | (apply Lex.is; · (intro u w' hk hd; refine looked_free rfl ?_; simp [Waited, Region.binds, Is] at hd; intro K hK; have hO2 := hO.grow hk; have hca := hO2.b0.cell; have m0 := k0 _ hO2.below; have m1 := k1 _ hO2.below; go_wp2_with (go_at_call 165; (with_reducible refine (hea _).mono ?_); rintro e w3 ⟨rfl, hb3⟩); (try simp only [hd] at hK); refine hK _ _ ?_ rfl; first | exact Below.refl _ _ | exact hb3)) | (refine Lex.is (c := undef) ?_ ?_; · (intro u w' hk hd; simp [Waited, Region.binds, Is] at hd; refine looked_skip_g rfl rfl rfl ?_ rfl; simp only [hd]; first | rfl | decide)) | (apply Lex.is; · (intro u w' hk hd; simp [Waited, Region.binds, Is] at hd; refine looked_want_g rfl rfl rfl ?_ ?_; (· (simp only [hd]; first | rfl | decide)); intro K hK; have hO2 := hO.grow hk; have hca := hO2.b0.cell; have m0 := k0 _ hO2.below; have m1 := k1 _ hO2.below; go_wp2_with (go_at_call 165; (with_reducible refine (hea _).mono ?_); rintro e w3 ⟨rfl, hb3⟩); (try simp only [hd] at hK); refine hK _ _ ?_ rfl; first | exact Below.refl _ _ | exact hb3)))
     apply Lex.nil
     intro u w' hk hd
     simp only [List.nil_append, List.cons_append] at hd
     have hlast := hd 8 _ rfl
     simp only [Is] at hlast
     clear hd
     simp only [hlast]
     clear hlast
     replace hO := hO.grow hk
     clear hk hea
     go_wp2_with fail
     apply wp_region_lex
     case hFl => intro u; simp only [List.map, fill, Act.put, List.setIfInBounds_toArray, List.set_cons_zero, List.set_cons_succ, Nat.reduceAdd, Nat.zero_add]; rfl
     case hm => kernel_rfl
     case hB => kernel_rfl
     case hap => kernel_rfl
     repeat (first | (apply Lex.is; · (intro u w' hk hd; refine looked_free rfl ?_; simp [Waited, Region.binds, Is] at hd; intro K hK; have hO2 := hO.grow hk; have hca := hO2.b0.cell; have m0 := k2 _ hO2.below; have m1 := k3 _ hO2.below; go_wp2_with (go_at_call 165; (with_reducible refine (heb _).mono ?_); rintro e w3 ⟨rfl, hb3⟩); (try simp only [hd] at hK); refine hK _ _ ?_ rfl; first | exact Below.refl _ _ | exact hb3)) | (refine Lex.is (c := undef) ?_ ?_; · (intro u w' hk hd; simp [Waited, Region.binds, Is] at hd; refine looked_skip_g rfl rfl rfl ?_ rfl; simp only [hd]; first | rfl | decide)) | (apply Lex.is; · (intro u w' hk hd; simp [Waited, Region.binds, Is] at hd; refine looked_want_g rfl rfl rfl ?_ ?_; (· (simp only [hd]; first | rfl | decide)); intro K hK; have hO2 := hO.grow hk; have hca := hO2.b0.cell; have m0 := k2 _ hO2.below; have m1 := k3 _ hO2.below; go_wp2_with (go_at_call 165; (with_reducible refine (heb _).mono ?_); rintro e w3 ⟨rfl, hb3⟩); (try simp only [hd] at hK); refine hK _ _ ?_ rfl; first | exact Below.refl _ _ | exact hb3)))
     apply Lex.nil
     intro u w' hk hd
     simp only [List.nil_append, List.cons_append] at hd
     have hlast := hd 8 _ rfl
     simp only [Is] at hlast
     clear hd
     simp only [hlast]
     clear hlast
     replace hO := hO.grow hk
     clear hk heb
     cases ea with
     | false =>
      have HR' := HR.out
      have hs0 := HSP.out
      rw [if_pos (.inl rfl)] at hs0
      rw [hs0, if_pos (by decide)] at HR'
      clear hs0
      replace HR := Lib.hid HR'
      clear HR' HSP hjo heq
      go_wp2_with fail
      apply wp_region_lex
      case hFl => intro u; simp only [List.map, fill, Act.put, List.setIfInBounds_toArray, List.set_cons_zero, List.set_cons_succ, Nat.reduceAdd, Nat.zero_add]; rfl
      case hm => kernel_rfl
      case hB => kernel_rfl
      case hap => kernel_rfl
      repeat (first | (apply Lex.is; · (intro u w' hk hd; refine looked_free rfl ?_; simp [Waited, Region.binds, Is] at hd; intro K hK; have hO2 := hO.grow hk; have hca := hO2.b0.cell; have m0 := k0 _ hO2.below; have m1 := k1 _ hO2.below; have m2 := k2 _ hO2.below; have m3 := k3 _ hO2.below; go_wp2_with (fail); (try simp only [hd] at hK); refine hK _ _ ?_ rfl; first | exact Below.refl _ _ | exact hb3)) | (refine Lex.is (c := undef) ?_ ?_; · (intro u w' hk hd; simp [Waited, Region.binds, Is] at hd; refine looked_skip_g rfl rfl rfl ?_ rfl; simp only [hd]; first | rfl | decide)) | (apply Lex.is; · (intro u w' hk hd; simp [Waited, Region.binds, Is] at hd; refine looked_want_g rfl rfl rfl ?_ ?_; (· (simp only [hd]; first | rfl | decide)); intro K hK; have hO2 := hO.grow hk; have hca := hO2.b0.cell; have m0 := k0 _ hO2.below; have m1 := k1 _ hO2.below; have m2 := k2 _ hO2.below; have m3 := k3 _ hO2.below; go_wp2_with (fail); (try simp only [hd] at hK); refine hK _ _ ?_ rfl; first | exact Below.refl _ _ | exact hb3)))
      apply Lex.nil
      intro u w' hk hd
      simp only [List.nil_append, List.cons_append] at hd
      have hlast := hd 20 _ rfl
      simp only [Is] at hlast
      clear hd
      simp only [hlast]
      clear hlast
      have hB3 := (hO.grow hk).below
      go_wp2_with fail
      go_ret
      exact ⟨by simp [HR.out], hB3⟩
     | true =>
     cases eb with
     | false =>
      have HR' := HR.out
      have hs0 := HSP.out
      rw [if_pos (.inr (.inl rfl))] at hs0
      rw [hs0, if_pos (by decide)] at HR'
      clear hs0
      replace HR := Lib.hid HR'
      clear HR' HSP hjo heq
      go_wp2_with fail
      apply wp_region_lex
      case hFl => intro u; simp only [List.map, fill, Act.put, List.setIfInBounds_toArray, List.set_cons_zero, List.set_cons_succ, Nat.reduceAdd, Nat.zero_add]; rfl
      case hm => kernel_rfl
      case hB => kernel_rfl
      case hap => kernel_rfl
      repeat (first | (apply Lex.is; · (intro u w' hk hd; refine looked_free rfl ?_; simp [Waited, Region.binds, Is] at hd; intro K hK; have hO2 := hO.grow hk; have hca := hO2.b0.cell; have m0 := k0 _ hO2.below; have m1 := k1 _ hO2.below; have m2 := k2 _ hO2.below; have m3 := k3 _ hO2.below; go_wp2_with (fail); (try simp only [hd] at hK); refine hK _ _ ?_ rfl; first | exact Below.refl _ _ | exact hb3)) | (refine Lex.is (c := undef) ?_ ?_; · (intro u w' hk hd; simp [Waited, Region.binds, Is] at hd; refine looked_skip_g rfl rfl rfl ?_ rfl; simp only [hd]; first | rfl | decide)) | (apply Lex.is; · (intro u w' hk hd; simp [Waited, Region.binds, Is] at hd; refine looked_want_g rfl rfl rfl ?_ ?_; (· (simp only [hd]; first | rfl | decide)); intro K hK; have hO2 := hO.grow hk; have hca := hO2.b0.cell; have m0 := k0 _ hO2.below; have m1 := k1 _ hO2.below; have m2 := k2 _ hO2.below; have m3 := k3 _ hO2.below; go_wp2_with (fail); (try simp only [hd] at hK); refine hK _ _ ?_ rfl; first | exact Below.refl _ _ | exact hb3)))
      apply Lex.nil
      intro u w' hk hd
      simp only [List.nil_append, List.cons_append] at hd
      have hlast := hd 20 _ rfl
      simp only [Is] at hlast
      clear hd
      simp only [hlast]
      clear hlast
      have hB3 := (hO.grow hk).below
      go_wp2_with fail
      go_ret
      exact ⟨by simp [HR.out], hB3⟩
     | true =>
     cases sm with
     | true =>
      have HR' := HR.out
      have hs0 := HSP.out
      rw [if_pos (.inr (.inr rfl))] at hs0
      rw [hs0, if_pos (by decide)] at HR'
      clear hs0
      replace HR := Lib.hid HR'
      clear HR' HSP hjo
      go_wp2_with fail
      apply wp_region_lex
      case hFl => intro u; simp only [List.map, fill, Act.put, List.setIfInBounds_toArray, List.set_cons_zero, List.set_cons_succ, Nat.reduceAdd, Nat.zero_add]; rfl
      case hm => kernel_rfl
      case hB => kernel_rfl
      case hap => kernel_rfl
      repeat (first | (apply Lex.is; · (intro u w' hk hd; refine looked_free rfl ?_; simp [Waited, Region.binds, Is] at hd; intro K hK; have hO2 := hO.grow hk; have hca := hO2.b0.cell; have m0 := k0 _ hO2.below; have m1 := k1 _ hO2.below; have m2 := k2 _ hO2.below; have m3 := k3 _ hO2.below; go_wp2_with (fail); (try simp only [hd] at hK); refine hK _ _ ?_ rfl; first | exact Below.refl _ _ | exact hb3)) | (refine Lex.is (c := undef) ?_ ?_; · (intro u w' hk hd; simp [Waited, Region.binds, Is] at hd; refine looked_skip_g rfl rfl rfl ?_ rfl; simp only [hd]; first | rfl | decide)) | (apply Lex.is; · (intro u w' hk hd; simp [Waited, Region.binds, Is] at hd; refine looked_want_g rfl rfl rfl ?_ ?_; (· (simp only [hd]; first | rfl | decide)); intro K hK; have hO2 := hO.grow hk; have hca := hO2.b0.cell; have m0 := k0 _ hO2.below; have m1 := k1 _ hO2.below; have m2 := k2 _ hO2.below; have m3 := k3 _ hO2.below; go_wp2_with (fail); (try simp only [hd] at hK); refine hK _ _ ?_ rfl; first | exact Below.refl _ _ | exact hb3)))
      apply Lex.nil
      intro u w' hk hd
      simp only [List.nil_append, List.cons_append] at hd
      have hlast := hd 20 _ rfl
      simp only [Is] at hlast
      clear hd
      simp only [hlast]
      clear hlast
      have hB3 := (hO.grow hk).below
      go_wp2_with fail
      go_ret
      exact ⟨by simp [HR.out], hB3⟩
     | false =>
     go_wp2_with fail
     apply wp_region_lex
     case hFl => intro u; simp only [List.map, fill, Act.put, List.setIfInBounds_toArray, List.set_cons_zero, List.set_cons_succ, Nat.reduceAdd, Nat.zero_add]; rfl
     case hm => kernel_rfl
     case hB => kernel_rfl
     case hap => kernel_rfl
     repeat (first | (apply Lex.is; · (intro u w' hk hd; refine looked_free rfl ?_; simp [Waited, Region.binds, Is] at hd; intro K hK; have hO2 := hO.grow hk; have hca := hO2.b0.cell; have m0 := k0 _ hO2.below; have m1 := k1 _ hO2.below; have m2 := k2 _ hO2.below; have m3 := k3 _ hO2.below; go_wp2_with (fail); (try simp only [hd] at hK); refine hK _ _ ?_ rfl; first | exact Below.refl _ _ | exact hb3)) | (refine Lex.is (c := undef) ?_ ?_; · (intro u w' hk hd; simp [Waited, Region.binds, Is] at hd; refine looked_skip_g rfl rfl rfl ?_ rfl; simp only [hd]; first | rfl | decide)) | (apply Lex.is; · (intro u w' hk hd; simp [Waited, Region.binds, Is] at hd; refine looked_want_g rfl rfl rfl ?_ ?_; (· (simp only [hd]; first | rfl | decide)); intro K hK; have hO2 := hO.grow hk; have hca := hO2.b0.cell; have m0 := k0 _ hO2.below; have m1 := k1 _ hO2.below; have m2 := k2 _ hO2.below; have m3 := k3 _ hO2.below; go_wp2_with (fail); (try simp only [hd] at hK); refine hK _ _ ?_ rfl; first | exact Below.refl _ _ | exact hb3)))
     apply Lex.nil
     intro u w' hk hd
     simp only [List.nil_append, List.cons_append] at hd
     have hlast := hd 20 _ rfl
     simp only [Is] at hlast
     clear hd
     simp only [hlast]
     clear hlast
     replace hO := hO.grow hk
     clear hk heq
     go_wp2_with fail
     apply wp_region_lex
     case hFl => intro u; simp only [List.map, fill, Act.put, List.setIfInBounds_toArray, List.set_cons_zero, List.set_cons_succ, Nat.reduceAdd, Nat.zero_add]; rfl
     case hm => kernel_rfl
     case hB => kernel_rfl
     case hap => kernel_rfl
     repeat (first | (apply Lex.is; · (intro u w' hk hd; refine looked_free rfl ?_; simp [Waited, Region.binds, Is] at hd; intro K hK; have hO2 := hO.grow hk; have hca := hO2.b0.cell; have m0 := k0 _ hO2.below; have m1 := k1 _ hO2.below; have m2 := k2 _ hO2.below; have m3 := k3 _ hO2.below; go_wp2_with (go_at_call 166; (with_reducible refine (hjo _ hO2.below).mono ?_); rintro e w3 ⟨rfl, hb3⟩); (try simp only [hd] at hK); refine hK _ _ ?_ rfl; first | exact Below.refl _ _ | exact hb3)) | (refine Lex.is (c := undef) ?_ ?_; · (intro u w' hk hd; simp [Waited, Region.binds, Is] at hd; refine looked_skip_g rfl rfl rfl ?_ rfl; simp only [hd]; first | rfl | decide)) | (apply Lex.is; · (intro u w' hk hd; simp [Waited, Region.binds, Is] at hd; refine looked_want_g rfl rfl rfl ?_ ?_; (· (simp only [hd]; first | rfl | decide)); intro K hK; have hO2 := hO.grow hk; have hca := hO2.b0.cell; have m0 := k0 _ hO2.below; have m1 := k1 _ hO2.below; have m2 := k2 _ hO2.below; have m3 := k3 _ hO2.below; go_wp2_with (go_at_call 166; (with_reducible refine (hjo _ hO2.below).mono ?_); rintro e w3 ⟨rfl, hb3⟩); (try simp only [hd] at hK); refine hK _ _ ?_ rfl; first | exact Below.refl _ _ | exact hb3)))
     apply Lex.nil
     intro u w' hk hd
     simp only [List.nil_append, List.cons_append] at hd
     have hlast := hd 17 _ rfl
     simp only [Is] at hlast
     clear hd
     simp only [hlast]
     clear hlast
     have hO3 := hO.grow hk
     cases jo with
     | true =>
      have HR' := HR.out
      have hs0 := HSP.out
      rw [if_neg (by simp), if_pos rfl] at hs0
      rw [hs0, if_pos (by decide)] at HR'
      clear hs0
      replace HR := Lib.hid HR'
      clear HR' HSP
      go_wp2_with fail
      go_ret
      exact ⟨by simp [HR.out], hO3.below⟩
     | false =>
      have hap := HSP.out
      rw [if_neg (by simp), if_neg (by simp)] at hap
      have HAP := Lib.hid hap
      clear HSP hap
      go_wp2_with fail
      go_roundw
      case rel => exact ⟨_, by go_num, by omega, HAP, hO3⟩
      case measure => simp [intOf]; omega
    ·
     obtain rfl : k = m.n2 := by omega
     have hdc : decide ((m.n2 : Int) < (m.n2 : Int)) = false := by simp
     have hj0 : jointsE t [] t.joints = 0 := by
      rw [hap.out, List.drop_of_length_le (by rw [h.e2]; exact Nat.le_refl _), jointsE.eq_def]
     have HR' := HR.out
     rw [if_neg (by rw [hj0]; simp)] at HR'
     replace HR := Lib.hid HR'
     clear HR' hj0 hap hlt hk
     go_wp2_with fail
     clear hcl hdc
     go_loopw [8] (fun x wr => ∃ k : Nat, x = .int .i64 k ∧ k ≤ m.n3 ∧ Hid (balsE t [] t.bals = balsE t (t.bals.take k) (t.bals.drop k)) ∧ Own w wr [(w.heap.size, 27, #[.slice m.A1 m.n1 m.c1, .slice m.A2 m.n2 m.c2, .slice m.A3 m.n3 m.c3, .slice m.A4 m.n4 m.c4])]) (fun x _ => m.n3 - (intOf x).toNat)
     case atStart => exact ⟨0, rfl, Nat.zero_le _, Lib.hid (by simp), hO⟩
     case round =>
      clear hO
      obtain ⟨k, rfl, hk, hap, hO⟩ := hrel
      have hcl := hO.b0.cell
      by_cases hlt : k < m.n3
      ·
       have hdc : decide ((k : Int) < (m.n3 : Int)) = true := by simpa using hlt
       obtain ⟨b, hb⟩ := get_some h.e3 hlt
       obtain ⟨g, off, hA3, hg, a0, a1, a2⟩ := h.lies.bals.bl hb
       have kk0 := (hO.below.cell (p := ⟨g, off + k * 3, none⟩) hg).trans a0
       have kk1 := (hO.below.cell (p := ⟨g, off + k * 3 + 1, none⟩) hg).trans a1
       have kk2 := (hO.below.cell (p := ⟨g, off + k * 3 + 2, none⟩) hg).trans a2
       have hstep := bals_step (t := t) hb
       rw [← hap.out] at hstep
       have hm := fun W => redge_m h b.edge W
       simp only [TpM.cells, hA3] at hO hcl hm ⊢
       obtain ⟨x1, x2, x3⟩ := b
       simp only at hm kk0 kk1 kk2 hstep
       have hO1 := Own.new1 hO 93 #[.int .i64 x1, .int .i64 x2, .int .i64 x3]
       have hcm := hO1.b0.cell
       have hcn := hO1.b1.cell
       have HB := Lib.hid hb
       have HSP := Lib.hid hstep
       clear hb a0 a1 a2 hstep hap
       have hthere := @there_int t x2
       generalize thereT t x2 = th at *
       replace hthere := Lib.hid hthere
       go_wp2_with (first
        |(go_at_call 167; (with_reducible refine (hm _).mono ?_); rintro e w1 ⟨rfl, hb1⟩))
       replace hO := hO1.grow hb1
       clear hdc hcl hcm hcn hm kk0 kk1 kk2 hO1 hb1
       generalize wr.heap.size = sb at hO ⊢
       --< L2a
       by_cases h1 : x1 < 0
       ·
        have f1 : decide (x1 < 0) = true := by simpa using h1
        have HR' := HR.out
        have hs0 := HSP.out
        rw [if_pos (.inl h1)] at hs0
        rw [hs0, if_pos (by decide)] at HR'
        clear hs0
        replace HR := Lib.hid HR'
        clear HR' HSP hthere
        apply wp_region_lex
        case hFl => intro u; simp only [List.map, fill, Act.put, List.setIfInBounds_toArray, List.set_cons_zero, List.set_cons_succ, Nat.reduceAdd, Nat.zero_add]; rfl
        case hm => kernel_rfl
        case hB => kernel_rfl
        case hap => kernel_rfl
        repeat (first | (apply Lex.is; · (intro u w' hk hd; refine looked_free rfl ?_; simp [Waited, Region.binds, Is] at hd; intro K hK; have hO2 := hO.grow hk; have hca := hO2.b0.cell; have hcb := hO2.b1.cell; go_wp2_with (fail); (try simp only [hd] at hK); refine hK _ _ ?_ rfl; first | exact Below.refl _ _ | exact hb3)) | (refine Lex.is (c := undef) ?_ ?_; · (intro u w' hk hd; simp [Waited, Region.binds, Is] at hd; refine looked_skip_g rfl rfl rfl ?_ rfl; simp only [hd]; first | rfl | decide)) | (apply Lex.is; · (intro u w' hk hd; simp [Waited, Region.binds, Is] at hd; refine looked_want_g rfl rfl rfl ?_ ?_; (· (simp only [hd]; first | rfl | decide)); intro K hK; have hO2 := hO.grow hk; have hca := hO2.b0.cell; have hcb := hO2.b1.cell; go_wp2_with (fail); (try simp only [hd] at hK); refine hK _ _ ?_ rfl; first | exact Below.refl _ _ | exact hb3)))
        apply Lex.nil
        intro u w' hk hd
        simp only [List.nil_append, List.cons_append] at hd
        have hlast := hd 27 _ rfl
        simp only [Is] at hlast
        clear hd
        simp only [hlast]
        clear hlast
        have hB3 := (hO.grow hk).below
        go_wp2_with fail
        go_ret
        exact ⟨by simp [HR.out], hB3⟩
       have f1 : decide (x1 < 0) = false := by simpa using h1
       replace h1 := Int.not_lt.1 h1
       by_cases h2 : 16777214 < x1
       ·
        have f2 : decide (16777214 < x1) = true := by simpa using h2
        have HR' := HR.out
        have hs0 := HSP.out
        rw [if_pos (.inr (.inl h2))] at hs0
        rw [hs0, if_pos (by decide)] at HR'
        clear hs0
        replace HR := Lib.hid HR'
        clear HR' HSP hthere
        apply wp_region_lex
        case hFl => intro u; simp only [List.map, fill, Act.put, List.setIfInBounds_toArray, List.set_cons_zero, List.set_cons_succ, Nat.reduceAdd, Nat.zero_add]; rfl
        case hm => kernel_rfl
        case hB => kernel_rfl
        case hap => kernel_rfl
        repeat (first | (apply Lex.is; · (intro u w' hk hd; refine looked_free rfl ?_; simp [Waited, Region.binds, Is] at hd; intro K hK; have hO2 := hO.grow hk; have hca := hO2.b0.cell; have hcb := hO2.b1.cell; go_wp2_with (fail); (try simp only [hd] at hK); refine hK _ _ ?_ rfl; first | exact Below.refl _ _ | exact hb3)) | (refine Lex.is (c := undef) ?_ ?_; · (intro u w' hk hd; simp [Waited, Region.binds, Is] at hd; refine looked_skip_g rfl rfl rfl ?_ rfl; simp only [hd]; first | rfl | decide)) | (apply Lex.is; · (intro u w' hk hd; simp [Waited, Region.binds, Is] at hd; refine looked_want_g rfl rfl rfl ?_ ?_; (· (simp only [hd]; first | rfl | decide)); intro K hK; have hO2 := hO.grow hk; have hca := hO2.b0.cell; have hcb := hO2.b1.cell; go_wp2_with (fail); (try simp only [hd] at hK); refine hK _ _ ?_ rfl; first | exact Below.refl _ _ | exact hb3)))
        apply Lex.nil
        intro u w' hk hd
        simp only [List.nil_append, List.cons_append] at hd
        have hlast := hd 27 _ rfl
        simp only [Is] at hlast
        clear hd
        simp only [hlast]
        clear hlast
        have hB3 := (hO.grow hk).below
        go_wp2_with fail
        go_ret
        exact ⟨by simp [HR.out], hB3⟩
       have f2 : decide (16777214 < x1) = false := by simpa using h2
       replace h2 := Int.not_lt.1 h2
       cases th with
       | false =>
        have HR' := HR.out
        have hs0 := HSP.out
        rw [if_pos (.inr (.inr (.inl rfl)))] at hs0
        rw [hs0, if_pos (by decide)] at HR'
        clear hs0
        replace HR := Lib.hid HR'
        clear HR' HSP hthere
        apply wp_region_lex
        case hFl => intro u; simp only [List.map, fill, Act.put, List.setIfInBounds_toArray, List.set_cons_zero, List.set_cons_succ, Nat.reduceAdd, Nat.zero_add]; rfl
        case hm => kernel_rfl
        case hB => kernel_rfl
        case hap => kernel_rfl
        repeat (first | (apply Lex.is; · (intro u w' hk hd; refine looked_free rfl ?_; simp [Waited, Region.binds, Is] at hd; intro K hK; have hO2 := hO.grow hk; have hca := hO2.b0.cell; have hcb := hO2.b1.cell; go_wp2_with (fail); (try simp only [hd] at hK); refine hK _ _ ?_ rfl; first | exact Below.refl _ _ | exact hb3)) | (refine Lex.is (c := undef) ?_ ?_; · (intro u w' hk hd; simp [Waited, Region.binds, Is] at hd; refine looked_skip_g rfl rfl rfl ?_ rfl; simp only [hd]; first | rfl | decide)) | (apply Lex.is; · (intro u w' hk hd; simp [Waited, Region.binds, Is] at hd; refine looked_want_g rfl rfl rfl ?_ ?_; (· (simp only [hd]; first | rfl | decide)); intro K hK; have hO2 := hO.grow hk; have hca := hO2.b0.cell; have hcb := hO2.b1.cell; go_wp2_with (fail); (try simp only [hd] at hK); refine hK _ _ ?_ rfl; first | exact Below.refl _ _ | exact hb3)))
        apply Lex.nil
        intro u w' hk hd
        simp only [List.nil_append, List.cons_append] at hd
        have hlast := hd 27 _ rfl
        simp only [Is] at hlast
        clear hd
        simp only [hlast]
        clear hlast
        have hB3 := (hO.grow hk).below
        go_wp2_with fail
        go_ret
        exact ⟨by simp [HR.out], hB3⟩
       | true =>
       by_cases h3 : x3 < 0
       ·
        have f3 : decide (x3 < 0) = true := by simpa using h3
        have HR' := HR.out
        have hs0 := HSP.out
        rw [if_pos (.inr (.inr (.inr (.inl h3))))] at hs0
        rw [hs0, if_pos (by decide)] at HR'
        clear hs0
        replace HR := Lib.hid HR'
        clear HR' HSP hthere
        apply wp_region_lex
        case hFl => intro u; simp only [List.map, fill, Act.put, List.setIfInBounds_toArray, List.set_cons_zero, List.set_cons_succ, Nat.reduceAdd, Nat.zero_add]; rfl
        case hm => kernel_rfl
        case hB => kernel_rfl
        case hap => kernel_rfl
        repeat (first | (apply Lex.is; · (intro u w' hk hd; refine looked_free rfl ?_; simp [Waited, Region.binds, Is] at hd; intro K hK; have hO2 := hO.grow hk; have hca := hO2.b0.cell; have hcb := hO2.b1.cell; go_wp2_with (fail); (try simp only [hd] at hK); refine hK _ _ ?_ rfl; first | exact Below.refl _ _ | exact hb3)) | (refine Lex.is (c := undef) ?_ ?_; · (intro u w' hk hd; simp [Waited, Region.binds, Is] at hd; refine looked_skip_g rfl rfl rfl ?_ rfl; simp only [hd]; first | rfl | decide)) | (apply Lex.is; · (intro u w' hk hd; simp [Waited, Region.binds, Is] at hd; refine looked_want_g rfl rfl rfl ?_ ?_; (· (simp only [hd]; first | rfl | decide)); intro K hK; have hO2 := hO.grow hk; have hca := hO2.b0.cell; have hcb := hO2.b1.cell; go_wp2_with (fail); (try simp only [hd] at hK); refine hK _ _ ?_ rfl; first | exact Below.refl _ _ | exact hb3)))
        apply Lex.nil
        intro u w' hk hd
        simp only [List.nil_append, List.cons_append] at hd
        have hlast := hd 27 _ rfl
        simp only [Is] at hlast
        clear hd
        simp only [hlast]
        clear hlast
        have hB3 := (hO.grow hk).below
        go_wp2_with fail
        go_ret
        exact ⟨by simp [HR.out], hB3⟩
       have f3 : decide (x3 < 0) = false := by simpa using h3
       replace h3 := Int.not_lt.1 h3
       obtain ⟨i, rfl, hil, hie⟩ := hthere.out rfl
       obtain ⟨ge, offe, hge, hgb, c0⟩ := h.lies.edges.int hil
       have ke0 := fun W (hW : Below w.heap.size w W) => (hW.cell (p := ⟨ge, offe + i, none⟩) hgb).trans c0
       have hin : i < m.n1 := by have := HE1.out; omega
       have HSP' := HSP.out
       rw [hie] at HSP'
       clear HSP c0 hie hil hthere
       generalize t.edges[i]! = ev at *
       simp only [hge] at hO ⊢
       by_cases h4 : ev < x3
       ·
        have f4 : decide (ev < x3) = true := by simpa using h4
        have HR' := HR.out
        have hs0 := HSP'
        rw [if_pos (.inr (.inr (.inr (.inr h4))))] at hs0
        rw [hs0, if_pos (by decide)] at HR'
        clear hs0
        replace HR := Lib.hid HR'
        clear HR' HSP'
        apply wp_region_lex
        case hFl => intro u; simp only [List.map, fill, Act.put, List.setIfInBounds_toArray, List.set_cons_zero, List.set_cons_succ, Nat.reduceAdd, Nat.zero_add]; rfl
        case hm => kernel_rfl
        case hB => kernel_rfl
        case hap => kernel_rfl
        repeat (first | (apply Lex.is; · (intro u w' hk hd; refine looked_free rfl ?_; simp [Waited, Region.binds, Is] at hd; intro K hK; have hO2 := hO.grow hk; have hca := hO2.b0.cell; have hcb := hO2.b1.cell ; have m0 := ke0 _ hO2.below; go_wp2_with (fail); (try simp only [hd] at hK); refine hK _ _ ?_ rfl; first | exact Below.refl _ _ | exact hb3)) | (refine Lex.is (c := undef) ?_ ?_; · (intro u w' hk hd; simp [Waited, Region.binds, Is] at hd; refine looked_skip_g rfl rfl rfl ?_ rfl; simp only [hd]; first | rfl | decide)) | (apply Lex.is; · (intro u w' hk hd; simp [Waited, Region.binds, Is] at hd; refine looked_want_g rfl rfl rfl ?_ ?_; (· (simp only [hd]; first | rfl | decide)); intro K hK; have hO2 := hO.grow hk; have hca := hO2.b0.cell; have hcb := hO2.b1.cell ; have m0 := ke0 _ hO2.below; go_wp2_with (fail); (try simp only [hd] at hK); refine hK _ _ ?_ rfl; first | exact Below.refl _ _ | exact hb3)))
        apply Lex.nil
        intro u w' hk hd
        simp only [List.nil_append, List.cons_append] at hd
        have hlast := hd 27 _ rfl
        simp only [Is] at hlast
        clear hd
        simp only [hlast]
        clear hlast
        have hB3 := (hO.grow hk).below
        go_wp2_with fail
        go_ret
        exact ⟨by simp [HR.out], hB3⟩
       have f4 : decide (ev < x3) = false := by simpa using h4
       replace h4 := Int.not_lt.1 h4
       rw [if_neg (by simp; omega)] at HSP'
       have HSP := Lib.hid HSP'
       clear HSP'
       --< L2b
       apply wp_region_lex
       case hFl => intro u; simp only [List.map, fill, Act.put, List.setIfInBounds_toArray, List.set_cons_zero, List.set_cons_succ, Nat.reduceAdd, Nat.zero_add]; rfl
       case hm => kernel_rfl
       case hB => kernel_rfl
       case hap => kernel_rfl
       repeat (first | (apply Lex.is; · (intro u w' hk hd; refine looked_free rfl ?_; simp [Waited, Region.binds, Is] at hd; intro K hK; have hO2 := hO.grow hk; have hca := hO2.b0.cell; have hcb := hO2.b1.cell; have m0 := ke0 _ hO2.below; go_wp2_with (fail); (try simp only [hd] at hK); refine hK _ _ ?_ rfl; first | exact Below.refl _ _ | exact hb3)) | (refine Lex.is (c := undef) ?_ ?_; · (intro u w' hk hd; simp [Waited, Region.binds, Is] at hd; refine looked_skip_g rfl rfl rfl ?_ rfl; simp only [hd]; first | rfl | decide)) | (apply Lex.is; · (intro u w' hk hd; simp [Waited, Region.binds, Is] at hd; refine looked_want_g rfl rfl rfl ?_ ?_; (· (simp only [hd]; first | rfl | decide)); intro K hK; have hO2 := hO.grow hk; have hca := hO2.b0.cell; have hcb := hO2.b1.cell; have m0 := ke0 _ hO2.below; go_wp2_with (fail); (try simp only [hd] at hK); refine hK _ _ ?_ rfl; first | exact Below.refl _ _ | exact hb3)))
       apply Lex.nil
       intro u w' hk hd
       simp only [List.nil_append, List.cons_append] at hd
       have hlast := hd 27 _ rfl
       simp only [Is] at hlast
       clear hd
       simp only [hlast]
       clear hlast
       replace hO := hO.grow hk
       clear hk f1 f2 f3 f4 h1 h2 h3 h4
       go_wp2_with fail
       go_loopw [11] (fun x wr2 => ∃ q : Nat, x = .int .i64 q ∧ q ≤ k ∧ Hid ((t.bals.take q).any (fun x => decide (x.id = x1)) = false) ∧ Own w wr2 [(w.heap.size, 27, #[.slice (some ⟨ge, offe, none⟩) m.n1 m.c1, .slice m.A2 m.n2 m.c2, .slice (some ⟨g, off, none⟩) m.n3 m.c3, .slice m.A4 m.n4 m.c4]), (sb, 93, #[.int .i64 x1, .int .i64 i, .int .i64 x3])]) (fun x _ => k - (intOf x).toNat)
       case atStart => exact ⟨0, rfl, Nat.zero_le _, Lib.hid rfl, hO⟩
       case round =>
        clear hO
        obtain ⟨q, rfl, hq, hov, hO⟩ := hrel
        by_cases hlt2 : q < k
        ·
         have hdc2 : decide ((q : Int) < (k : Int)) = true := by simpa using hlt2
         obtain ⟨y, hy⟩ := get_some h.e3 (show q < m.n3 by omega)
         obtain ⟨g', off', e, _, b0, _⟩ := h.lies.bals.bl hy
         rw [hA3] at e
         simp only [Option.some.injEq, Addr.mk.injEq] at e
         obtain ⟨rfl, rfl, -⟩ := e
         have kb0 := fun W (hW : Below w.heap.size w W) => (hW.cell (p := ⟨g, off + q * 3, none⟩) hg).trans b0
         have hov2 := anyK_take (q := fun x => decide (x.id = x1)) hy
         rw [hov.out, Bool.false_or] at hov2
         obtain ⟨y1, y2, y3⟩ := y
         simp only at hov2 kb0
         clear hy b0 hov
         by_cases h1 : y1 = x1
         ·
          have f1 : (y1 == x1) = true := by simpa using h1
          rw [decide_eq_true h1] at hov2
          have HR' := HR.out
          have hs0 := HSP.out
          rw [if_pos (anyK_mono (by omega) hov2)] at hs0
          rw [hs0, if_pos (by decide)] at HR'
          clear hs0
          replace HR := Lib.hid HR'
          clear HR' hov2 h1
          go_wp2_with fail
          apply wp_region_lex
          case hFl => intro u; simp only [List.map, fill, Act.put, List.setIfInBounds_toArray, List.set_cons_zero, List.set_cons_succ, Nat.reduceAdd, Nat.zero_add]; rfl
          case hm => kernel_rfl
          case hB => kernel_rfl
          case hap => kernel_rfl
          repeat (first | (apply Lex.is; · (intro u w' hk hd; refine looked_free rfl ?_; simp [Waited, Region.binds, Is] at hd; intro K hK; have hO2 := hO.grow hk; have hca := hO2.b0.cell; have hcb := hO2.b1.cell; have m1 := kb0 _ hO2.below; go_wp2_with (fail); (try simp only [hd] at hK); refine hK _ _ ?_ rfl; first | exact Below.refl _ _ | exact hb3)) | (refine Lex.is (c := undef) ?_ ?_; · (intro u w' hk hd; simp [Waited, Region.binds, Is] at hd; refine looked_skip_g rfl rfl rfl ?_ rfl; simp only [hd]; first | rfl | decide)) | (apply Lex.is; · (intro u w' hk hd; simp [Waited, Region.binds, Is] at hd; refine looked_want_g rfl rfl rfl ?_ ?_; (· (simp only [hd]; first | rfl | decide)); intro K hK; have hO2 := hO.grow hk; have hca := hO2.b0.cell; have hcb := hO2.b1.cell; have m1 := kb0 _ hO2.below; go_wp2_with (fail); (try simp only [hd] at hK); refine hK _ _ ?_ rfl; first | exact Below.refl _ _ | exact hb3)))
          apply Lex.nil
          intro u w' hk hd
          simp only [List.nil_append, List.cons_append] at hd
          have hlast := hd 8 _ rfl
          simp only [Is] at hlast
          clear hd
          simp only [hlast]
          clear hlast
          have hB3 := (hO.grow hk).below
          go_wp2_with fail
          go_ret
          exact ⟨by simp [HR.out], hB3⟩
         ·
          have f1 : (y1 == x1) = false := by simpa using h1
          rw [decide_eq_false h1] at hov2
          have HOV := Lib.hid hov2
          clear hov2 h1
          go_wp2_with fail
          apply wp_region_lex
          case hFl => intro u; simp only [List.map, fill, Act.put, List.setIfInBounds_toArray, List.set_cons_zero, List.set_cons_succ, Nat.reduceAdd, Nat.zero_add]; rfl
          case hm => kernel_rfl
          case hB => kernel_rfl
          case hap => kernel_rfl
          repeat (first | (apply Lex.is; · (intro u w' hk hd; refine looked_free rfl ?_; simp [Waited, Region.binds, Is] at hd; intro K hK; have hO2 := hO.grow hk; have hca := hO2.b0.cell; have hcb := hO2.b1.cell; have m1 := kb0 _ hO2.below; go_wp2_with (fail); (try simp only [hd] at hK); refine hK _ _ ?_ rfl; first | exact Below.refl _ _ | exact hb3)) | (refine Lex.is (c := undef) ?_ ?_; · (intro u w' hk hd; simp [Waited, Region.binds, Is] at hd; refine looked_skip_g rfl rfl rfl ?_ rfl; simp only [hd]; first | rfl | decide)) | (apply Lex.is; · (intro u w' hk hd; simp [Waited, Region.binds, Is] at hd; refine looked_want_g rfl rfl rfl ?_ ?_; (· (simp only [hd]; first | rfl | decide)); intro K hK; have hO2 := hO.grow hk; have hca := hO2.b0.cell; have hcb := hO2.b1.cell; have m1 := kb0 _ hO2.below; go_wp2_with (fail); (try simp only [hd] at hK); refine hK _ _ ?_ rfl; first | exact Below.refl _ _ | exact hb3)))
          apply Lex.nil
          intro u w' hk hd
          simp only [List.nil_append, List.cons_append] at hd
          have hlast := hd 8 _ rfl
          simp only [Is] at hlast
          clear hd
          simp only [hlast]
          clear hlast
          have hO3 := hO.grow hk
          go_wp2_with fail
          go_roundw
          case rel => exact ⟨q + 1, by go_num, by omega, HOV, hO3⟩
          case measure => simp [intOf]; omega
        ·
         obtain rfl : q = k := by omega
         have hdc2 : decide ((q : Int) < (q : Int)) = false := by simp
         have hap := HSP.out
         rw [if_neg (by rw [hov.out]; simp)] at hap
         have HAP := Lib.hid hap
         clear hap hov HSP
         simp only [← hge] at hO ⊢
         go_wp2_with fail
         go_roundw
         case rel => exact ⟨q + 1, by go_num, by omega, HAP, by first | exact hO.less1 | (rw [hA3]; exact hO.less1) | (rw [hge, hA3]; exact hO.less1)⟩
         case measure => simp [intOf]; omega
       --> L2b
       --> L2a
      ·
       obtain rfl : k = m.n3 := by omega
       have hdc : decide ((m.n3 : Int) < (m.n3 : Int)) = false := by simp
       have hj0 : balsE t [] t.bals = 0 := by
        rw [hap.out, List.drop_of_length_le (by rw [h.e3]; exact Nat.le_refl _), balsE.eq_def]
       have HR' := HR.out
       rw [if_neg (by rw [hj0]; simp)] at HR'
       replace HR := Lib.hid HR'
       clear HR' hj0 hap hlt hk
       go_wp2_with fail
       clear hcl hdc
       go_loopw [12] (fun x wr => ∃ k : Nat, x = .int .i64 k ∧ k ≤ m.n4 ∧ Hid (routesE t [] t.routes = routesE t (t.routes.take k) (t.routes.drop k)) ∧ Own w wr [(w.heap.size, 27, #[.slice m.A1 m.n1 m.c1, .slice m.A2 m.n2 m.c2, .slice m.A3 m.n3 m.c3, .slice m.A4 m.n4 m.c4])]) (fun x _ => m.n4 - (intOf x).toNat)
       case atStart => exact ⟨0, rfl, Nat.zero_le _, Lib.hid (by simp), hO⟩
       case round =>
        clear hO
        obtain ⟨k, rfl, hk, hap, hO⟩ := hrel
        have hcl := hO.b0.cell
        by_cases hlt : k < m.n4
        ·
         have hdc : decide ((k : Int) < (m.n4 : Int)) = true := by simpa using hlt
         have hlr : m.rs.length = m.n4 := by rw [← h.e4, ← h.lies.is, List.length_map]
         have HLR := Lib.hid hlr
         obtain ⟨p, hp⟩ := get_some hlr hlt
         obtain ⟨g, off, hA4, hg, a0, a1, a2, a3⟩ := h.lies.routes.rt hp
         have k0 := fun W (hW : Below w.heap.size w W) => (hW.cell (p := ⟨g, off + k * 4, none⟩) hg).trans a0
         have k1 := fun W (hW : Below w.heap.size w W) => (hW.cell (p := ⟨g, off + k * 4 + 1, none⟩) hg).trans a1
         have k2 := fun W (hW : Below w.heap.size w W) => (hW.cell (p := ⟨g, off + k * 4 + 2, none⟩) hg).trans a2
         have k3 := fun W (hW : Below w.heap.size w W) => (hW.cell (p := ⟨g, off + k * 4 + 3, none⟩) hg).trans a3
         have hp2 : t.routes[k]? = some p.1 := by
          rw [← h.lies.is, List.getElem?_map, hp]
          rfl
         have hpm : p ∈ m.rs := List.mem_of_getElem? hp
         have hrt := fun W (hW : Below w.heap.size w W) => rroute_m (h.below hW) p.1 p.2.1 p.1.path.length p.2.2 ((h.lies.paths p hpm).below hW) rfl (h.l5 p.1 (List.mem_of_getElem? hp2)) HED.out
         have hstep := routes_step (t := t) hp2
         rw [← hap.out] at hstep
         have HSP := Lib.hid hstep
         clear hp hp2 hpm a0 a1 a2 a3 hstep hap hlr
         generalize routedE t p.1 = re at *
         simp only [TpM.cells, hA4] at hO hcl hrt ⊢
         go_wp2_with fail
         clear hcl hdc
         apply wp_region_lex
         case hFl => intro u; simp only [List.map, fill, Act.put, List.setIfInBounds_toArray, List.set_cons_zero, List.set_cons_succ, Nat.reduceAdd, Nat.zero_add]; rfl
         case hm => kernel_rfl
         case hB => kernel_rfl
         case hap => kernel_rfl
         repeat (first | (apply Lex.is; · (intro u w' hk hd; refine looked_free rfl ?_; simp [Waited, Region.binds, Is] at hd; intro K hK; have hO2 := hO.grow hk; have hca := hO2.b0.cell; have m0 := k0 _ hO2.below; have m1 := k1 _ hO2.below; have m2 := k2 _ hO2.below; have m3 := k3 _ hO2.below; go_wp2_with (go_at_call 168; (with_reducible refine (hrt _ hO2.below).mono ?_); rintro e w3 ⟨rfl, hb3⟩); (try simp only [hd] at hK); refine hK _ _ ?_ rfl; first | exact Below.refl _ _ | exact hb3)) | (refine Lex.is (c := undef) ?_ ?_; · (intro u w' hk hd; simp [Waited, Region.binds, Is] at hd; refine looked_skip_g rfl rfl rfl ?_ rfl; simp only [hd]; first | rfl | decide)) | (apply Lex.is; · (intro u w' hk hd; simp [Waited, Region.binds, Is] at hd; refine looked_want_g rfl rfl rfl ?_ ?_; (· (simp only [hd]; first | rfl | decide)); intro K hK; have hO2 := hO.grow hk; have hca := hO2.b0.cell; have m0 := k0 _ hO2.below; have m1 := k1 _ hO2.below; have m2 := k2 _ hO2.below; have m3 := k3 _ hO2.below; go_wp2_with (go_at_call 168; (with_reducible refine (hrt _ hO2.below).mono ?_); rintro e w3 ⟨rfl, hb3⟩); (try simp only [hd] at hK); refine hK _ _ ?_ rfl; first | exact Below.refl _ _ | exact hb3)))
         apply Lex.nil
         intro u w' hk hd
         simp only [List.nil_append, List.cons_append] at hd
         have hlast := hd 7 _ rfl
         simp only [Is] at hlast
         clear hd
         simp only [hlast]
         clear hlast
         replace hO := hO.grow hk
         clear hk hrt
         by_cases hre : re = 0
         ·
          have hap := HSP.out
          rw [if_neg (by simpa using hre)] at hap
          replace HSP := Lib.hid hap
          subst hre
          clear hap
          go_wp2_with fail
          go_loopw [14] (fun x wr2 => ∃ q : Nat, x = .int .i64 q ∧ q ≤ k ∧ Hid ((t.routes.take q).any (fun x => decide (x.id = p.1.id)) = false) ∧ Own w wr2 [(w.heap.size, 27, #[.slice m.A1 m.n1 m.c1, .slice m.A2 m.n2 m.c2, .slice m.A3 m.n3 m.c3, .slice (some ⟨g, off, none⟩) m.n4 m.c4])]) (fun x _ => k - (intOf x).toNat)
          case atStart => exact ⟨0, rfl, Nat.zero_le _, Lib.hid rfl, hO⟩
          case round =>
           clear hO
           obtain ⟨q, rfl, hq, hov, hO⟩ := hrel
           by_cases hlt2 : q < k
           ·
            have hdc2 : decide ((q : Int) < (k : Int)) = true := by simpa using hlt2
            obtain ⟨y, hy⟩ := get_some HLR.out (show q < m.n4 by omega)
            obtain ⟨g', off', e, _, b0, _⟩ := h.lies.routes.rt hy
            rw [hA4] at e
            simp only [Option.some.injEq, Addr.mk.injEq] at e
            obtain ⟨rfl, rfl, -⟩ := e
            have hy2 : t.routes[q]? = some y.1 := by
             rw [← h.lies.is, List.getElem?_map, hy]
             rfl
            have kb0 := fun W (hW : Below w.heap.size w W) => (hW.cell (p := ⟨g, off + q * 4, none⟩) hg).trans b0
            have hov2 := anyK_take (q := fun x => decide (x.id = p.1.id)) hy2
            rw [hov.out, Bool.false_or] at hov2
            clear hy hy2 b0 hov
            by_cases h1 : y.1.id = p.1.id
            ·
             have f1 : (y.1.id == p.1.id) = true := by simpa using h1
             rw [decide_eq_true h1] at hov2
             have HR' := HR.out
             rw [HSP.out, if_pos (anyK_mono (by omega) hov2)] at HR'
             replace HR := Lib.hid HR'
             clear HR' hov2 h1
             go_wp2_with fail
             apply wp_region_lex
             case hFl => intro u; simp only [List.map, fill, Act.put, List.setIfInBounds_toArray, List.set_cons_zero, List.set_cons_succ, Nat.reduceAdd, Nat.zero_add]; rfl
             case hm => kernel_rfl
             case hB => kernel_rfl
             case hap => kernel_rfl
             repeat (first | (apply Lex.is; · (intro u w' hk hd; refine looked_free rfl ?_; simp [Waited, Region.binds, Is] at hd; intro K hK; have hO2 := hO.grow hk; have hca := hO2.b0.cell; have m0 := k0 _ hO2.below; have m1 := kb0 _ hO2.below; go_wp2_with (fail); (try simp only [hd] at hK); refine hK _ _ ?_ rfl; first | exact Below.refl _ _ | exact hb3)) | (refine Lex.is (c := undef) ?_ ?_; · (intro u w' hk hd; simp [Waited, Region.binds, Is] at hd; refine looked_skip_g rfl rfl rfl ?_ rfl; simp only [hd]; first | rfl | decide)) | (apply Lex.is; · (intro u w' hk hd; simp [Waited, Region.binds, Is] at hd; refine looked_want_g rfl rfl rfl ?_ ?_; (· (simp only [hd]; first | rfl | decide)); intro K hK; have hO2 := hO.grow hk; have hca := hO2.b0.cell; have m0 := k0 _ hO2.below; have m1 := kb0 _ hO2.below; go_wp2_with (fail); (try simp only [hd] at hK); refine hK _ _ ?_ rfl; first | exact Below.refl _ _ | exact hb3)))
             apply Lex.nil
             intro u w' hk hd
             simp only [List.nil_append, List.cons_append] at hd
             have hlast := hd 12 _ rfl
             simp only [Is] at hlast
             clear hd
             simp only [hlast]
             clear hlast
             have hB3 := (hO.grow hk).below
             go_wp2_with fail
             go_ret
             exact ⟨by simp [HR.out], hB3⟩
            ·
             have f1 : (y.1.id == p.1.id) = false := by simpa using h1
             rw [decide_eq_false h1] at hov2
             have HOV := Lib.hid hov2
             clear hov2 h1
             go_wp2_with fail
             apply wp_region_lex
             case hFl => intro u; simp only [List.map, fill, Act.put, List.setIfInBounds_toArray, List.set_cons_zero, List.set_cons_succ, Nat.reduceAdd, Nat.zero_add]; rfl
             case hm => kernel_rfl
             case hB => kernel_rfl
             case hap => kernel_rfl
             repeat (first | (apply Lex.is; · (intro u w' hk hd; refine looked_free rfl ?_; simp [Waited, Region.binds, Is] at hd; intro K hK; have hO2 := hO.grow hk; have hca := hO2.b0.cell; have m0 := k0 _ hO2.below; have m1 := kb0 _ hO2.below; go_wp2_with (fail); (try simp only [hd] at hK); refine hK _ _ ?_ rfl; first | exact Below.refl _ _ | exact hb3)) | (refine Lex.is (c := undef) ?_ ?_; · (intro u w' hk hd; simp [Waited, Region.binds, Is] at hd; refine looked_skip_g rfl rfl rfl ?_ rfl; simp only [hd]; first | rfl | decide)) | (apply Lex.is; · (intro u w' hk hd; simp [Waited, Region.binds, Is] at hd; refine looked_want_g rfl rfl rfl ?_ ?_; (· (simp only [hd]; first | rfl | decide)); intro K hK; have hO2 := hO.grow hk; have hca := hO2.b0.cell; have m0 := k0 _ hO2.below; have m1 := kb0 _ hO2.below; go_wp2_with (fail); (try simp only [hd] at hK); refine hK _ _ ?_ rfl; first | exact Below.refl _ _ | exact hb3)))
             apply Lex.nil
             intro u w' hk hd
             simp only [List.nil_append, List.cons_append] at hd
             have hlast := hd 12 _ rfl
             simp only [Is] at hlast
             clear hd
             simp only [hlast]
             clear hlast
             have hO3 := hO.grow hk
             go_wp2_with fail
             go_roundw
             case rel => exact ⟨q + 1, by go_num, by omega, HOV, hO3⟩
             case measure => simp [intOf]; omega
           ·
            obtain rfl : q = k := by omega
            have hdc2 : decide ((q : Int) < (q : Int)) = false := by simp
            have hap := HSP.out
            rw [if_neg (by rw [hov.out]; simp)] at hap
            have HAP := Lib.hid hap
            clear hap hov HSP
            go_wp2_with fail
            go_roundw
            case rel => exact ⟨q + 1, by go_num, by omega, HAP, hO⟩
            case measure => simp [intOf]; omega
         ·
          have HR' := HR.out
          rw [HSP.out, if_pos hre] at HR'
          replace HR := Lib.hid HR'
          have f0 : (re != 0) = true := by simpa using hre
          clear HR' HSP
          go_wp2_with fail
          go_ret
          exact ⟨by simp [HR.out], hO.below⟩
        ·
         obtain rfl : k = m.n4 := by omega
         have hdc : decide ((m.n4 : Int) < (m.n4 : Int)) = false := by simp
         have hj0 : routesE t [] t.routes = 0 := by
          rw [hap.out, List.drop_of_length_le (by rw [h.e4]; exact Nat.le_refl _), routesE.eq_def]
         have HR' := HR.out
         rw [hj0] at HR'
         replace HR := Lib.hid HR'
         clear HR' hj0 hap
         go_wp2_with fail
         go_ret
         exact ⟨by simp [HR.out], hO.below⟩
end Go.Proofs.YtkaggddmhjifjaaGreatDoor
