/- Texts in one: Place SpanO PlanA. -/
import Derived.Test.YtkaggddmhjifjaaGreatDoorK10
import Derived.Test.YtkaggddmhjifjaaGreatDoorK04
import Derived.Test.YtkaggddmhjifjaaGreatDoorK08
import Derived.Test.YtkaggddmhjifjaaGreatDoorK09
set_option linter.unusedSimpArgs false
set_option linter.unusedVariables false
namespace Go.Proofs.YtkaggddmhjifjaaGreatDoor
open Go.RowKit Go.Shelf
abbrev psV (p : Ps) : Value := .agg #[.int .i64 p.edge, .int .i64 p.at_, .bool p.rev]
theorem right_parts {t : Tp} {p : Ps} (h : rightT t p = true) : checkT t = 0 ∧ thereT t p.edge = true ∧ 0 ≤ p.at_ ∧ p.at_ ≤ edgeT t p.edge := by
 unfold rightT at h
 simp only [Bool.and_eq_true, decide_eq_true_eq] at h
 exact ⟨h.1.1.1, h.1.1.2, h.1.2, h.2⟩
theorem edge_at {w : World} {t : Tp} {m : TpM} (h : TpIs w t m) {e : Int} (he : thereT t e = true) : ∃ (i : Nat) (v : Int) (g off : Nat), e = (i : Int) ∧ i < m.n1 ∧ edgeT t e = v ∧ m.A1 = some ⟨g, off, none⟩ ∧ (∀ W, Below w.heap.size w W → W.cell? ⟨g, off + i, none⟩ = some (.int .i64 v)) ∧ v ∈ t.edges := by
 obtain ⟨i, rfl, hil, hie⟩ := there_int he
 obtain ⟨ge, offe, hge, hgb, c0⟩ := h.lies.edges.int hil
 refine ⟨i, _, ge, offe, rfl, by rw [← h.e1]; exact hil, hie, hge, fun W hW => (hW.cell (p := ⟨ge, offe + i, none⟩) hgb).trans c0, ?_⟩
 rw [getElem!_pos t.edges i hil]
 exact List.getElem_mem hil
set_option maxRecDepth 8000 in
set_option maxHeartbeats 4000000 in
theorem right_m {w : World} {t : Tp} {m : TpM} (h : TpIs w t m) (p : Ps) : Calls Tryz.prog 48 #[.agg m.cells, psV p] w fun e w' => e = .returned (.bool (rightT t p)) ∧ Below w.heap.size w w' := by
 have hO : Own w _ [_, _] := Own.start2 w 27 38 m.cells #[.int .i64 p.edge, .int .i64 p.at_, .bool p.rev]
 have hcl := hO.b0.cell
 have hcp := hO.b1.cell
 have hck := fun W (hW : Below w.heap.size w W) => check_m (h.below hW)
 have hr : rightT t p = (decide (checkT t = 0) && thereT t p.edge && decide (0 ≤ p.at_) && decide (p.at_ ≤ edgeT t p.edge)) := rfl
 have hth : thereT t p.edge = (decide (0 ≤ p.edge) && decide (p.edge < t.edges.length)) := rfl
 rw [h.e1] at hth
 have hedge := @edge_at w t m h p.edge
 obtain ⟨pe, pa, pr⟩ := p
 simp only at hr hth hedge hO hcl hcp
 generalize rightT t ⟨pe, pa, pr⟩ = rr at *
 generalize thereT t pe = th at *
 by_cases h1 : checkT t = 0
 ·
  rw [h1] at hck
  by_cases h2 : 0 ≤ pe
  ·
   have f2 : decide (0 ≤ pe) = true := by simpa using h2
   by_cases h3 : pe < m.n1
   ·
    have f3 : decide (pe < (m.n1 : Int)) = true := by simpa using h3
    rw [f2, f3] at hth
    subst hth
    obtain ⟨i, ev, g, off, rfl, hin, hie, hA1, hke, _⟩ := hedge rfl
    rw [hie, h1] at hr
    clear hedge hie h1 f2 f3
    simp only [TpM.cells, hA1] at hck hcl hO ⊢
    by_cases h4 : 0 ≤ pa
    ·
     have f4 : decide (0 ≤ pa) = true := by simpa using h4
     by_cases h5 : pa ≤ ev
     ·
      have f5 : decide (pa ≤ ev) = true := by simpa using h5
      obtain rfl : rr = true := by rw [hr, f4, f5]; rfl
      clear hr
      go_enter Tryz.func48, Tryz.ntmps48
      go_wp2_with fail
      apply wp_region_lex
      case hFl => intro u; simp only [List.map, fill, Act.put, List.setIfInBounds_toArray, List.set_cons_zero, List.set_cons_succ, Nat.reduceAdd, Nat.zero_add]; rfl
      case hm => kernel_rfl
      case hB => kernel_rfl
      case hap => kernel_rfl
      repeat (first | (apply Lex.is; · (intro u w' hk hd; simp [Waited, Region.binds, Is] at hd; refine looked_want ?_ ?_; (· (first | rfl | (simp [Region.wanted, yielded, hd]; done))); intro K hK; have hO2 := hO.grow hk; have hB2 := hO2.below; have hca := hO2.b0.cell; have hcb := hO2.b1.cell; have ke1 := hke _ hB2; go_wp2_with (go_at_call 70; (with_reducible refine (hck _ hB2).mono ?_); rintro e w3 ⟨rfl, hb3⟩); (try simp only [hd] at hK); refine hK _ _ ?_ rfl; first | exact Below.refl _ _ | exact hb3)) | (refine Lex.is (c := undef) ?_ ?_; · (intro u w' hk hd; simp [Waited, Region.binds, Is] at hd; refine looked_skip ?_ rfl; first | (simp [Region.wanted, yielded, hd]; done) | (simp [Region.wanted, yielded, hd, undef]; done))))
      apply Lex.nil
      intro u w' hk hd
      simp only [List.nil_append, List.cons_append] at hd
      have hlast := hd 32 _ rfl
      simp only [Is] at hlast
      clear hd
      simp only [hlast]
      have hB3 := (hO.grow hk).below
      go_wp2_with fail
      go_ret
      exact ⟨by simp, hB3⟩
     ·
      have f5 : decide (pa ≤ ev) = false := by simpa using h5
      obtain rfl : rr = false := by rw [hr, f4, f5]; rfl
      clear hr
      go_enter Tryz.func48, Tryz.ntmps48
      go_wp2_with fail
      apply wp_region_lex
      case hFl => intro u; simp only [List.map, fill, Act.put, List.setIfInBounds_toArray, List.set_cons_zero, List.set_cons_succ, Nat.reduceAdd, Nat.zero_add]; rfl
      case hm => kernel_rfl
      case hB => kernel_rfl
      case hap => kernel_rfl
      repeat (first | (apply Lex.is; · (intro u w' hk hd; simp [Waited, Region.binds, Is] at hd; refine looked_want ?_ ?_; (· (first | rfl | (simp [Region.wanted, yielded, hd]; done))); intro K hK; have hO2 := hO.grow hk; have hB2 := hO2.below; have hca := hO2.b0.cell; have hcb := hO2.b1.cell; have ke1 := hke _ hB2; go_wp2_with (go_at_call 70; (with_reducible refine (hck _ hB2).mono ?_); rintro e w3 ⟨rfl, hb3⟩); (try simp only [hd] at hK); refine hK _ _ ?_ rfl; first | exact Below.refl _ _ | exact hb3)) | (refine Lex.is (c := undef) ?_ ?_; · (intro u w' hk hd; simp [Waited, Region.binds, Is] at hd; refine looked_skip ?_ rfl; first | (simp [Region.wanted, yielded, hd]; done) | (simp [Region.wanted, yielded, hd, undef]; done))))
      apply Lex.nil
      intro u w' hk hd
      simp only [List.nil_append, List.cons_append] at hd
      have hlast := hd 32 _ rfl
      simp only [Is] at hlast
      clear hd
      simp only [hlast]
      have hB3 := (hO.grow hk).below
      go_wp2_with fail
      go_ret
      exact ⟨by simp, hB3⟩
    ·
     have f4 : decide (0 ≤ pa) = false := by simpa using h4
     obtain rfl : rr = false := by rw [hr, f4]; rfl
     clear hr
     go_enter Tryz.func48, Tryz.ntmps48
     go_wp2_with fail
     apply wp_region_lex
     case hFl => intro u; simp only [List.map, fill, Act.put, List.setIfInBounds_toArray, List.set_cons_zero, List.set_cons_succ, Nat.reduceAdd, Nat.zero_add]; rfl
     case hm => kernel_rfl
     case hB => kernel_rfl
     case hap => kernel_rfl
     repeat (first | (apply Lex.is; · (intro u w' hk hd; simp [Waited, Region.binds, Is] at hd; refine looked_want ?_ ?_; (· (first | rfl | (simp [Region.wanted, yielded, hd]; done))); intro K hK; have hO2 := hO.grow hk; have hB2 := hO2.below; have hca := hO2.b0.cell; have hcb := hO2.b1.cell; go_wp2_with (go_at_call 70; (with_reducible refine (hck _ hB2).mono ?_); rintro e w3 ⟨rfl, hb3⟩); (try simp only [hd] at hK); refine hK _ _ ?_ rfl; first | exact Below.refl _ _ | exact hb3)) | (refine Lex.is (c := undef) ?_ ?_; · (intro u w' hk hd; simp [Waited, Region.binds, Is] at hd; refine looked_skip ?_ rfl; first | (simp [Region.wanted, yielded, hd]; done) | (simp [Region.wanted, yielded, hd, undef]; done))))
     apply Lex.nil
     intro u w' hk hd
     simp only [List.nil_append, List.cons_append] at hd
     have hlast := hd 32 _ rfl
     simp only [Is] at hlast
     clear hd
     simp only [hlast]
     have hB3 := (hO.grow hk).below
     go_wp2_with fail
     go_ret
     exact ⟨by simp, hB3⟩
   ·
    have f3 : decide (pe < (m.n1 : Int)) = false := by simpa using h3
    obtain rfl : rr = false := by rw [hr, hth, f3]; simp
    clear hr hth hedge h1
    unfold TpM.cells at *
    go_enter Tryz.func48, Tryz.ntmps48
    go_wp2_with fail
    apply wp_region_lex
    case hFl => intro u; simp only [List.map, fill, Act.put, List.setIfInBounds_toArray, List.set_cons_zero, List.set_cons_succ, Nat.reduceAdd, Nat.zero_add]; rfl
    case hm => kernel_rfl
    case hB => kernel_rfl
    case hap => kernel_rfl
    repeat (first | (apply Lex.is; · (intro u w' hk hd; simp [Waited, Region.binds, Is] at hd; refine looked_want ?_ ?_; (· (first | rfl | (simp [Region.wanted, yielded, hd]; done))); intro K hK; have hO2 := hO.grow hk; have hB2 := hO2.below; have hca := hO2.b0.cell; have hcb := hO2.b1.cell; go_wp2_with (go_at_call 70; (with_reducible refine (hck _ hB2).mono ?_); rintro e w3 ⟨rfl, hb3⟩); (try simp only [hd] at hK); refine hK _ _ ?_ rfl; first | exact Below.refl _ _ | exact hb3)) | (refine Lex.is (c := undef) ?_ ?_; · (intro u w' hk hd; simp [Waited, Region.binds, Is] at hd; refine looked_skip ?_ rfl; first | (simp [Region.wanted, yielded, hd]; done) | (simp [Region.wanted, yielded, hd, undef]; done))))
    apply Lex.nil
    intro u w' hk hd
    simp only [List.nil_append, List.cons_append] at hd
    have hlast := hd 32 _ rfl
    simp only [Is] at hlast
    clear hd
    simp only [hlast]
    have hB3 := (hO.grow hk).below
    go_wp2_with fail
    go_ret
    exact ⟨by simp, hB3⟩
  ·
   have f2 : decide (0 ≤ pe) = false := by simpa using h2
   obtain rfl : rr = false := by rw [hr, hth, f2]; simp
   clear hr hth hedge h1
   unfold TpM.cells at *
   go_enter Tryz.func48, Tryz.ntmps48
   go_wp2_with fail
   apply wp_region_lex
   case hFl => intro u; simp only [List.map, fill, Act.put, List.setIfInBounds_toArray, List.set_cons_zero, List.set_cons_succ, Nat.reduceAdd, Nat.zero_add]; rfl
   case hm => kernel_rfl
   case hB => kernel_rfl
   case hap => kernel_rfl
   repeat (first | (apply Lex.is; · (intro u w' hk hd; simp [Waited, Region.binds, Is] at hd; refine looked_want ?_ ?_; (· (first | rfl | (simp [Region.wanted, yielded, hd]; done))); intro K hK; have hO2 := hO.grow hk; have hB2 := hO2.below; have hca := hO2.b0.cell; have hcb := hO2.b1.cell; go_wp2_with (go_at_call 70; (with_reducible refine (hck _ hB2).mono ?_); rintro e w3 ⟨rfl, hb3⟩); (try simp only [hd] at hK); refine hK _ _ ?_ rfl; first | exact Below.refl _ _ | exact hb3)) | (refine Lex.is (c := undef) ?_ ?_; · (intro u w' hk hd; simp [Waited, Region.binds, Is] at hd; refine looked_skip ?_ rfl; first | (simp [Region.wanted, yielded, hd]; done) | (simp [Region.wanted, yielded, hd, undef]; done))))
   apply Lex.nil
   intro u w' hk hd
   simp only [List.nil_append, List.cons_append] at hd
   have hlast := hd 32 _ rfl
   simp only [Is] at hlast
   clear hd
   simp only [hlast]
   have hB3 := (hO.grow hk).below
   go_wp2_with fail
   go_ret
   exact ⟨by simp, hB3⟩
 ·
  obtain rfl : rr = false := by rw [hr, decide_eq_false h1]; rfl
  generalize checkT t = ck at *
  have f1 : (ck == 0) = false := by simpa using h1
  clear hr hth hedge h1
  unfold TpM.cells at *
  go_enter Tryz.func48, Tryz.ntmps48
  go_wp2_with fail
  apply wp_region_lex
  case hFl => intro u; simp only [List.map, fill, Act.put, List.setIfInBounds_toArray, List.set_cons_zero, List.set_cons_succ, Nat.reduceAdd, Nat.zero_add]; rfl
  case hm => kernel_rfl
  case hB => kernel_rfl
  case hap => kernel_rfl
  repeat (first | (apply Lex.is; · (intro u w' hk hd; simp [Waited, Region.binds, Is] at hd; refine looked_want ?_ ?_; (· (first | rfl | (simp [Region.wanted, yielded, hd]; done))); intro K hK; have hO2 := hO.grow hk; have hB2 := hO2.below; have hca := hO2.b0.cell; have hcb := hO2.b1.cell; go_wp2_with (go_at_call 70; (with_reducible refine (hck _ hB2).mono ?_); rintro e w3 ⟨rfl, hb3⟩); (try simp only [hd] at hK); refine hK _ _ ?_ rfl; first | exact Below.refl _ _ | exact hb3)) | (refine Lex.is (c := undef) ?_ ?_; · (intro u w' hk hd; simp [Waited, Region.binds, Is] at hd; refine looked_skip ?_ rfl; first | (simp [Region.wanted, yielded, hd]; done) | (simp [Region.wanted, yielded, hd, undef]; done))))
  apply Lex.nil
  intro u w' hk hd
  simp only [List.nil_append, List.cons_append] at hd
  have hlast := hd 32 _ rfl
  simp only [Is] at hlast
  clear hd
  simp only [hlast]
  have hB3 := (hO.grow hk).below
  go_wp2_with fail
  go_ret
  exact ⟨by simp, hB3⟩
set_option maxRecDepth 8000 in
set_option maxHeartbeats 4000000 in
theorem along_m {w : World} {t : Tp} {m : TpM} (h : TpIs w t m) (p : Ps) (hp : rightT t p = true) : Calls Tryz.prog 108 #[.agg m.cells, psV p] w fun e w' => e = .returned (.int .i64 (alongT t p)) ∧ Below w.heap.size w w' := by
 have hO : Own w _ [_, _] := Own.start2 w 27 38 m.cells #[.int .i64 p.edge, .int .i64 p.at_, .bool p.rev]
 have hcl := hO.b0.cell
 have hcp := hO.b1.cell
 obtain ⟨hc, hth, h0, h1⟩ := right_parts hp
 obtain ⟨i, ev, g, off, hi, hin, hie, hA1, hke, hev⟩ := edge_at h hth
 have hmax := check_edges hc ev hev
 have hr : alongT t p = if p.rev then ev - p.at_ else p.at_ := by unfold alongT; rw [hie]
 rw [hie] at h1
 obtain ⟨pe, pa, pr⟩ := p
 simp only at hi h0 h1 hr hO hcl hcp
 subst hi
 generalize alongT t ⟨i, pa, pr⟩ = rr at *
 clear hp hth hc hie hev
 simp only [TpM.cells, hA1] at hcl hO ⊢
 cases pr with
 | false =>
  obtain rfl : rr = pa := hr
  go_enter Tryz.func108, Tryz.ntmps108
  go_wp2_with fail
  go_ret
  exact ⟨rfl, hO.below⟩
 | true =>
  obtain rfl : rr = ev - pa := hr
  go_enter Tryz.func108, Tryz.ntmps108
  go_wp2_with fail
  apply wp_region_lex
  case hFl => intro u; simp only [List.map, fill, Act.put, List.setIfInBounds_toArray, List.set_cons_zero, List.set_cons_succ, Nat.reduceAdd, Nat.zero_add]; rfl
  case hm => kernel_rfl
  case hB => kernel_rfl
  case hap => kernel_rfl
  repeat (first | (apply Lex.is; · (intro u w' hk hd; simp [Waited, Region.binds, Is] at hd; refine looked_want ?_ ?_; (· (first | rfl | (simp [Region.wanted, yielded, hd]; done))); intro K hK; have hO2 := hO.grow hk; have hB2 := hO2.below; have hca := hO2.b0.cell; have hcb := hO2.b1.cell; have ke1 := hke _ hB2; go_wp2_with (fail); (try simp only [hd] at hK); refine hK _ _ ?_ rfl; first | exact Below.refl _ _ | exact hb3)) | (refine Lex.is (c := undef) ?_ ?_; · (intro u w' hk hd; simp [Waited, Region.binds, Is] at hd; refine looked_skip ?_ rfl; first | (simp [Region.wanted, yielded, hd]; done) | (simp [Region.wanted, yielded, hd, undef]; done))))
  apply Lex.nil
  intro u w' hk hd
  simp only [List.nil_append, List.cons_append] at hd
  have hlast := hd 9 _ rfl
  simp only [Is] at hlast
  clear hd
  simp only [hlast]
  have hB3 := (hO.grow hk).below
  go_wp2_with fail
  go_ret
  exact ⟨rfl, hB3⟩
end Go.Proofs.YtkaggddmhjifjaaGreatDoor
set_option linter.unusedSimpArgs false
set_option linter.unusedVariables false
namespace Go.Proofs.YtkaggddmhjifjaaGreatDoor
open Go.RowKit Go.Shelf Go.Sort
theorem enter_spover1 : ∀ args w, (callFunc 117 args).run Tryz.prog w = .ok (.enter 117 args) w := enters_of Tryz.func117 (by kernel_rfl) (by rfl)
theorem spover1_k (n : Int) (w : World) : Calls Tryz.prog 117 #[.int .i64 n] w fun r w' => r = .returned (.bool (decide (n < 1) || decide (1000000 < n))) ∧ w' = w := by
 by_cases h1 : n < 1
 ·
  have e1 : decide (n < 1) = true := by simpa using h1
  go_enter Tryz.func117, Tryz.ntmps117
  go_wp2
  go_ret
  exact ⟨by simp [h1], rfl⟩
 ·
  have e1 : decide (n < 1) = false := by simpa using h1
  go_enter Tryz.func117, Tryz.ntmps117
  go_wp2
  go_ret
  exact ⟨by simp [h1], rfl⟩
set_option maxRecDepth 8000 in
set_option maxHeartbeats 8000000 in
theorem spanover_k {w : World} {t : Tp} {m : TpM} (h : TpIs w t m) (A : Option Addr) (n c : Nat) (path : List St) (fr to_ : Int) (hp : RowsAt encSt w A path) (hn : path.length = n) (hl : n ≤ 100) (hed : ∀ n ∈ t.edges, 1 ≤ n ∧ n ≤ 1000000) (hl0 : lenE t path = 0) (h0 : 0 ≤ fr) (h1 : fr ≤ to_) (h2 : to_ ≤ lenT t path) : Calls Tryz.prog 67 #[.agg m.cells, .slice A n c, .int .i64 fr, .int .i64 to_] w fun e w' => ∃ A' c', e = .returned (.tuple #[.slice A' (normT (piecesT t fr to_ path 0)).length c', .int .i64 0]) ∧ RowsAt encSp w' A' (normT (piecesT t fr to_ path 0)) ∧ Below w.heap.size w w' := by
 have hO : Own w _ [_] := (Own.nil w).alloc 27 m.cells _ rfl
 have hcl := hO.b0.cell
 have hle := fun W (hW : Below w.heap.size w W) => len_m (h.below hW) A n c path (hp.below hW) hn hl
 have hq1 := h.q1
 have hany := fun W (hW : Below w.heap.size w W) => anyI_k 117 enter_spover1 #[] (fun n => decide (n < 1) || decide (1000000 < n)) m.A1 m.n1 m.c1 t.edges W (fun W' x hW' => (spover1_k x W').mono fun _ _ ⟨h1, h2⟩ => ⟨h1, 0, h2⟩) (h.lies.edges.below hW) h.e1 (by have := h.l1; omega)
 have hno : t.edges.any (fun n => decide (n < 1) || decide (1000000 < n)) = false := by
  rw [List.any_eq_false]
  intro n hn
  have := hed n hn
  simp
  omega
 have hok := len_ok hl0
 have hlb : lenT t path ≤ 100000000 := by
  have := lens_nonneg hed path hok.2.2.1
  rw [len_is hed hl0]
  omega
 simp only [hno, hl0] at hany hle
 have HT := Lib.hid hok.2.2.1
 have HE := Lib.hid hed
 have HN := Lib.hid hn
 have hn40 : n ≤ 40 := by omega
 clear hok hno hl0 hq1 hn hed
 generalize hlt : lenT t path = lt at *
 generalize hpp : piecesT t fr to_ path 0 = pp at *
 have HP := Lib.hid hpp
 clear hlt hpp
 have e1 : decide (fr < 0) = false := by simpa using h0
 have e2 : decide (to_ < fr) = false := by simpa using h1
 have e3 : decide (lt < to_) = false := by simpa using h2
 unfold TpM.cells at *
 go_enter Tryz.func67, Tryz.ntmps67
 go_wp2_with (first
  |(go_at_call 107; (with_reducible refine (hle _ hO.below).mono ?_); rintro e w1 ⟨rfl, hb1⟩; replace hO := hO.grow hb1; have hcl2 := hO.b0.cell)
  |(go_at_call 118; (with_reducible refine (hany _ hO.below).mono ?_); rintro e w2 ⟨rfl, hb2⟩; replace hO := hO.grow hb2; have hcl3 := hO.b0.cell))
 clear hle hany hcl hcl2 hcl3
 go_loopw [13, 14, 48] (fun s a i wr => ∃ (k : Nat) (at_ : Int) (A1 : Option Addr) (c1 : Nat) (zs : List Sp), i = .int .i64 k ∧ k ≤ n ∧ a = .int .i64 at_ ∧ 0 ≤ at_ ∧ at_ ≤ 1000000 * k ∧ s = .slice A1 k c1 ∧ Hid (zs ++ piecesT t fr to_ (path.drop k) at_ = pp) ∧ Hid (zs.length = k) ∧ OwnRows encSp 75 wr (w.heap.size + 1) A1 c1 zs ∧ Own w wr [(w.heap.size, 27, #[.slice m.A1 m.n1 m.c1, .slice m.A2 m.n2 m.c2, .slice m.A3 m.n3 m.c3, .slice m.A4 m.n4 m.c4])]) (fun _ _ i _ => n - (intOf i).toNat)
 case atStart => exact ⟨0, 0, none, 0, [], rfl, Nat.zero_le _, rfl, Int.le_refl _, Int.le_refl _, rfl, Lib.hid (by simpa using HP.out), Lib.hid rfl, OwnRows.nil _ _, hO⟩
 case round =>
  clear hO
  obtain ⟨k, at_, A1, c1, zs, rfl, hk, rfl, ha0, ha1, rfl, hJ, hK, ho, hO⟩ := hrel
  have hcl := hO.b0.cell
  have hsz : w.heap.size + 1 ≤ wr.heap.size := hO.b0.lt
  by_cases hlt : k < n
  ·
   obtain ⟨s, hs⟩ := get_some HN.out (show k < n by omega)
   obtain ⟨g, off, rfl, hg, a0, a1⟩ := hp.st hs
   have ka0 := fun W (hW : Below w.heap.size w W) => (hW.cell (p := ⟨g, off + k * 2, none⟩) hg).trans a0
   have ka1 := fun W (hW : Below w.heap.size w W) => (hW.cell (p := ⟨g, off + k * 2 + 1, none⟩) hg).trans a1
   have kk0 := ka0 _ hO.below
   have kk1 := ka1 _ hO.below
   have hr := HT.out s (List.mem_of_getElem? hs)
   obtain ⟨i, hi, hil, hie⟩ := there_int hr
   obtain ⟨ge, offe, hge, hgb, c0⟩ := h.lies.edges.int hil
   have ke0 := fun W (hW : Below w.heap.size w W) => (hW.cell (p := ⟨ge, offe + i, none⟩) hgb).trans c0
   have hi1 := h.e1
   have hin : i < m.n1 := by omega
   have hev := HE.out (t.edges[i]!) (by rw [getElem!_pos t.edges i hil]; exact List.getElem_mem hil)
   have hd1 : path.drop k = s :: path.drop (k + 1) := by
    obtain ⟨h1, h2⟩ := List.getElem?_eq_some_iff.1 hs
    rw [List.drop_eq_getElem_cons h1, h2]
   have hJ' := hJ.out
   rw [hd1, piecesT, pieceT, hie] at hJ'
   try simp only at hJ'
   generalize t.edges[i]! = ev at *
   clear hs hr hie hil c0 hi1 a0 a1 hd1
   obtain ⟨x1, x2⟩ := s
   simp only at hi
   subst hi
   simp only [hge] at hO hcl
   have ke1 := ke0 _ hO.below
   have hO1 := Own.new1 hO 95 #[.int .i64 i, .bool x2]
   have hcm := hO1.b0.cell
   have hcn := hO1.b1.cell
   have ke2 := ke0 _ hO1.below
   cases x2 with
   | false =>
    simp only [Bool.false_eq_true, if_false] at hJ'
    have HJ := Lib.hid hJ'
    clear hJ' hJ ka0 ka1
    have hB3 := Own.start3 wr 95 75 75 #[.int .i64 i, .bool false] #[.int .i64 i, .int .i64 (max (fr - at_) 0), .int .i64 (min (to_ - at_) ev)] #[.int .i64 i, .int .i64 (max (fr - at_) 0), .int .i64 (min (to_ - at_) ev)]
    go_wp2_with (at_builtin; refine wpList_app_rows rowSp rfl _ _ rfl (w.heap.size + 1) A1 c1 zs k rfl hK.out (ho.below hB3.below) _ 1 [⟨i, max (fr - at_) 0, min (to_ - at_) ev⟩] 1 rfl rfl (rowSp_one hB3.b2) (by omega) (by decide) (Nat.le_trans hsz hB3.below.size) ?_; intro A2 c2 w5 ho5 hg5 _)
    go_roundw
    case rel =>
     refine ⟨.slice A2 (k + 1) c2, .int .i64 (at_ + ev), _, _, _, .int .i64 ((k + 1 : Nat) : Int), ⟨k + 1, rfl, by omega, at_ + ev, rfl, by omega, by omega, A2, c2, rfl, zs ++ [⟨i, max (fr - at_) 0, min (to_ - at_) ev⟩], Lib.hid ?_, Lib.hid (by rw [List.length_append, hK.out]; rfl), ho5, ?_⟩, rfl, rfl, rfl, rfl, rfl, rfl⟩
     ·
      rw [List.append_assoc]
      exact HJ.out
     ·
      refine Own.grown (hO.grow hB3.below) hg5 fun g hg => ?_
      have := ho.row_ge g hg
      refine ⟨by omega, fun x hx => ?_⟩
      simp only [List.mem_singleton] at hx
      subst hx
      simp only
      omega
    case measure => simp [intOf]; omega
   | true =>
    simp only [if_true] at hJ'
    have HJ := Lib.hid hJ'
    clear hJ' hJ ka0 ka1
    have hB3 := Own.start3 wr 95 75 75 #[.int .i64 i, .bool true] #[.int .i64 i, .int .i64 (ev - min (to_ - at_) ev), .int .i64 (ev - max (fr - at_) 0)] #[.int .i64 i, .int .i64 (ev - min (to_ - at_) ev), .int .i64 (ev - max (fr - at_) 0)]
    go_wp2_with (at_builtin; refine wpList_app_rows rowSp rfl _ _ rfl (w.heap.size + 1) A1 c1 zs k rfl hK.out (ho.below hB3.below) _ 1 [⟨i, ev - min (to_ - at_) ev, ev - max (fr - at_) 0⟩] 1 rfl rfl (rowSp_one hB3.b2) (by omega) (by decide) (Nat.le_trans hsz hB3.below.size) ?_; intro A2 c2 w5 ho5 hg5 _)
    go_roundw
    case rel =>
     refine ⟨.slice A2 (k + 1) c2, .int .i64 (at_ + ev), _, _, _, .int .i64 ((k + 1 : Nat) : Int), ⟨k + 1, rfl, by omega, at_ + ev, rfl, by omega, by omega, A2, c2, rfl, zs ++ [⟨i, ev - min (to_ - at_) ev, ev - max (fr - at_) 0⟩], Lib.hid ?_, Lib.hid (by rw [List.length_append, hK.out]; rfl), ho5, ?_⟩, rfl, rfl, rfl, rfl, rfl, rfl⟩
     ·
      rw [List.append_assoc]
      exact HJ.out
     ·
      refine Own.grown (hO.grow hB3.below) hg5 fun g hg => ?_
      have := ho.row_ge g hg
      refine ⟨by omega, fun x hx => ?_⟩
      simp only [List.mem_singleton] at hx
      subst hx
      simp only
      omega
    case measure => simp [intOf]; omega
  ·
   obtain rfl : k = n := by omega
   have hzz : zs = pp := by
    have := hJ.out
    rw [List.drop_of_length_le (by rw [HN.out]; exact Nat.le_refl _), piecesT, List.append_nil] at this
    exact this
   subst hzz
   have hno := fun W (hW : Below wr.heap.size wr W) => norm_k A1 k c1 zs W (ho.below hW).rows hK.out (by omega)
   clear hJ
   go_wp2_with (first
    |(go_at_call 53; (with_reducible refine (hno _ (Below.refl _ _)).mono ?_); rintro e w5 ⟨A9, c9, rfl, ho9, hb9⟩))
   go_ret2
   exact ⟨A9, c9, rfl, ho9.rows, below_then hO.below hb9⟩
end Go.Proofs.YtkaggddmhjifjaaGreatDoor
set_option linter.unusedSimpArgs false
set_option linter.unusedVariables false
namespace Go.Proofs.YtkaggddmhjifjaaGreatDoor
open Go.RowKit Go.Shelf
theorem run_eql_st (a b : St) (W : World) : (binOp .eql 95 (stV a) (stV b)).run Tryz.prog W = .ok (.bool (decide (a = b))) W := by
 have u3 := Tryz.underlying3
 have a3 := Tryz.isAgg3
 have z3 := Tryz.sizeOf3
 have u4 := Tryz.underlying4
 have a4 := Tryz.isAgg4
 have z4 := Tryz.sizeOf4
 have hSE : Tryz.prog.underlying 95 = some (.struct (Tryz.prog.fieldsOf 95)) := by kernel_rfl
 have hpE : Tryz.prog.stoodInHeld 95 = false := by kernel_rfl
 rw [run_eql_struct, show (10000 : Nat) = 9999 + 1 from rfl]
 have hE := run_equalIn_agg (P := Tryz.prog) W 9999 95 #[.int .i64 a.edge, .bool a.rev] #[.int .i64 b.edge, .bool b.rev] hSE hpE
 simp only [Program.fieldsOf, Tryz.underlying95] at hE
 rw [hE]
 go_simp
 obtain ⟨x1, x2⟩ := a
 obtain ⟨y1, y2⟩ := b
 by_cases h1 : x1 = y1 <;> by_cases h2 : x2 = y2 <;> simp [h1, h2]
theorem run_neq_st (a b : St) (W : World) : (binOp .neq 95 (stV a) (stV b)).run Tryz.prog W = .ok (.bool (!decide (a = b))) W := by
 have h := run_eql_st a b W
 simp only [binOp, Op.equal] at h ⊢
 simp at h ⊢
 cases hr : (Op.equalIn Op.maxDepth 95 (stV a) (stV b)).run Tryz.prog W with
 | ok v W' =>
  rw [hr] at h
  simp at h
  obtain ⟨h1, h2⟩ := h
  subst h2
  simp [h1]
 | halt e W' =>
  rw [hr] at h
  simp at h
structure MaM where
 A1 : Option Addr
 n1 : Nat
 c1 : Nat
 A2 : Option Addr
 n2 : Nat
 c2 : Nat
def maC (m : Ma) (v : MaM) : Array Value := #[.int .i64 m.ref, .bool m.rev, .slice v.A1 v.n1 v.c1, .slice v.A2 v.n2 v.c2, .int .i64 m.gap]
structure MaIs (w : World) (m : Ma) (v : MaM) : Prop where
 path : RowsAt encSt w v.A1 m.path
 sects : RowsAt encSc w v.A2 m.sects
 e1 : m.path.length = v.n1
 e2 : m.sects.length = v.n2
 l1 : v.n1 ≤ 100
 l2 : v.n2 ≤ 100
 q1 : v.n1 ≤ v.c1
 q2 : v.n2 ≤ v.c2
theorem MaIs.below {w w' : World} {m : Ma} {v : MaM} (h : MaIs w m v) (hb : Below w.heap.size w w') : MaIs w' m v := { h with path := h.path.below hb, sects := h.sects.below hb }
theorem enter_over1 : ∀ args w, (callFunc 182 args).run Tryz.prog w = .ok (.enter 182 args) w := enters_of Tryz.func182 (by kernel_rfl) (by rfl)
theorem over1_k (x : St) (e : Int) (g : Nat) (w : World) (hA : w.cell? ⟨g, 0, none⟩ = some (.int .i64 e)) (hb : g < w.heap.size) : Calls Tryz.prog 182 #[.agg (encSt.enc x).toArray, .pointer (some ⟨g, 0, none⟩)] w fun r w' => r = .returned (.bool (decide (x.edge = e))) ∧ Below w.heap.size w w' := by
 obtain ⟨x1, x2⟩ := x
 simp only [encSt]
 have hO : Own w _ [_] := (Own.nil w).alloc 95 #[.int .i64 x1, .bool x2] _ rfl
 have hcl := hO.b0.cell
 have hA2 := (hO.below.cell (p := ⟨g, 0, none⟩) hb).trans hA
 go_enter Tryz.func182, Tryz.ntmps182
 go_wp2_with fail
 go_ret
 refine ⟨?_, hO.below⟩
 by_cases h : x1 = e <;> simp [h]
theorem plover_k (A : Option Addr) (n c : Nat) (p : List St) (e : Int) (w : World) (hp : RowsAt encSt w A p) (hn : p.length = n) (hl : n ≤ 100) : Calls Tryz.prog 133 #[.slice A n c, .int .i64 e] w fun r w' => r = .returned (.bool (overP p e)) ∧ Below w.heap.size w w' := by
 have hO : Own w _ [_] := (Own.nil w).alloc 3 #[.int .i64 e] _ rfl
 have hcl := hO.b0.cell
 have hany := anySt_k 182 enter_over1 #[.pointer (some ⟨w.heap.size, 0, none⟩)] (fun x => decide (x.edge = e)) A n c p _
  (fun W' x hW' => (over1_k x e w.heap.size W' ((hW'.cell (p := ⟨w.heap.size, 0, none⟩) hO.b0.lt).trans (hcl 0)) (Nat.lt_of_lt_of_le hO.b0.lt hW'.size)).mono fun _ _ h => ⟨h.1, below_then hW' h.2⟩) (hp.below hO.below) hn (by omega)
 clear hn
 unfold overP
 go_enter Tryz.func133, Tryz.ntmps133
 go_wp2_with (first
  |(go_at_call 131; (with_reducible refine hany.mono ?_); rintro e w1 ⟨rfl, hb1⟩; replace hO := hO.grow hb1))
 go_ret
 exact ⟨rfl, hO.below⟩
theorem twice_step {p : List St} {k : Nat} {s : St} (h : p[k]? = some s) : twiceP (p.take k) (p.drop k) = (overP (p.take k) s.edge || twiceP (p.take (k + 1)) (p.drop (k + 1))) := by
 rw [drop_cons h, take_snoc' h, twiceP]
set_option maxRecDepth 8000 in
set_option maxHeartbeats 2000000 in
theorem twice_k (A : Option Addr) (n c : Nat) (p : List St) (w : World) (hp : RowsAt encSt w A p) (hn : p.length = n) (hl : n ≤ 100) (hc : n ≤ c) : Calls Tryz.prog 78 #[.slice A n c] w fun r w' => r = .returned (.bool (twiceP [] p)) ∧ Below w.heap.size w w' := by
 have HN := Lib.hid hn
 clear hn
 go_enter Tryz.func78, Tryz.ntmps78
 go_wp2
 go_loopw [7] (fun i wr => ∃ k : Nat, i = .int .i64 k ∧ k ≤ n ∧ Hid (twiceP [] p = twiceP (p.take k) (p.drop k)) ∧ Below w.heap.size w wr) (fun i _ => n - (intOf i).toNat)
 case atStart => exact ⟨0, rfl, Nat.zero_le _, Lib.hid (by simp), Below.refl _ _⟩
 case round =>
  obtain ⟨k, rfl, hk, hap, hB⟩ := hrel
  by_cases hlt : k < n
  ·
   obtain ⟨s, hs⟩ := get_some HN.out hlt
   obtain ⟨g, off, rfl, hg, a0, a1⟩ := hp.st hs
   have kk0 := (hB.cell (p := ⟨g, off + k * 2, none⟩) hg).trans a0
   have kk1 := (hB.cell (p := ⟨g, off + k * 2 + 1, none⟩) hg).trans a1
   have hstep := twice_step hs
   rw [← hap.out] at hstep
   have hov := fun W (hW : Below w.heap.size w W) => plover_k (some ⟨g, off, none⟩) k c (p.take k) s.edge W ((hp.part k).below hW) (by rw [List.length_take, HN.out]; omega) (by omega)
   obtain ⟨x1, x2⟩ := s
   simp only at kk0 kk1 hov hstep
   have hO1 : Own wr _ [_] := (Own.nil wr).alloc 95 #[.int .i64 x1, .bool x2] _ rfl
   clear hs a0 a1
   generalize overP (p.take k) x1 = ov at *
   go_wp2
   cases ov with
   | true =>
    have hap' := Lib.hid hstep
    clear hstep hap
    apply wp_region_lex
    case hFl => intro u; simp only [List.map, fill, Act.put, List.setIfInBounds_toArray, List.set_cons_zero, List.set_cons_succ, Nat.reduceAdd, Nat.zero_add]; rfl
    case hm => kernel_rfl
    case hB => kernel_rfl
    case hap => kernel_rfl
    repeat (first | (apply Lex.is; · (intro u w' hk hd; simp [Waited, Region.binds, Is] at hd; refine looked_want ?_ ?_; (· (first | rfl | (simp [Region.wanted, yielded, hd]; done))); intro K hK; have hO2 := hO1.grow hk; have hB2 := below_then hB hO2.below; have hca := hO2.b0.cell; go_wp2_with (go_at_call 133; (with_reducible refine (hov _ hB2).mono ?_); rintro e w3 ⟨rfl, hb3⟩); (try simp only [hd] at hK); refine hK _ _ ?_ rfl; first | exact Below.refl _ _ | exact hb3)) | (refine Lex.is (c := undef) ?_ ?_; · (intro u w' hk hd; simp [Waited, Region.binds, Is] at hd; refine looked_skip ?_ rfl; first | (simp [Region.wanted, yielded, hd]; done) | (simp [Region.wanted, yielded, hd, undef]; done))))
    apply Lex.nil
    intro u w' hk hd
    simp only [List.nil_append, List.cons_append] at hd
    have hlast := hd 5 _ rfl
    simp only [Is] at hlast
    clear hd
    simp only [hlast]
    have hB3 := below_then hB (hO1.grow hk).below
    go_wp2_with fail
    go_ret
    exact ⟨by simp [hap'.out], hB3⟩
   | false =>
    rw [Bool.false_or] at hstep
    have hap' := Lib.hid hstep
    clear hstep hap
    apply wp_region_lex
    case hFl => intro u; simp only [List.map, fill, Act.put, List.setIfInBounds_toArray, List.set_cons_zero, List.set_cons_succ, Nat.reduceAdd, Nat.zero_add]; rfl
    case hm => kernel_rfl
    case hB => kernel_rfl
    case hap => kernel_rfl
    repeat (first | (apply Lex.is; · (intro u w' hk hd; simp [Waited, Region.binds, Is] at hd; refine looked_want ?_ ?_; (· (first | rfl | (simp [Region.wanted, yielded, hd]; done))); intro K hK; have hO2 := hO1.grow hk; have hB2 := below_then hB hO2.below; have hca := hO2.b0.cell; go_wp2_with (go_at_call 133; (with_reducible refine (hov _ hB2).mono ?_); rintro e w3 ⟨rfl, hb3⟩); (try simp only [hd] at hK); refine hK _ _ ?_ rfl; first | exact Below.refl _ _ | exact hb3)) | (refine Lex.is (c := undef) ?_ ?_; · (intro u w' hk hd; simp [Waited, Region.binds, Is] at hd; refine looked_skip ?_ rfl; first | (simp [Region.wanted, yielded, hd]; done) | (simp [Region.wanted, yielded, hd, undef]; done))))
    apply Lex.nil
    intro u w' hk hd
    simp only [List.nil_append, List.cons_append] at hd
    have hlast := hd 5 _ rfl
    simp only [Is] at hlast
    clear hd
    simp only [hlast]
    have hB3 := below_then hB (hO1.grow hk).below
    go_wp2_with fail
    go_roundw
    case rel => exact ⟨k + 1, by go_num, by omega, hap', hB3⟩
    case measure => simp [intOf]; omega
  ·
   obtain rfl : k = n := by omega
   have hap' : twiceP [] p = false := by
    rw [hap.out, List.drop_of_length_le (by rw [HN.out]; exact Nat.le_refl _)]
    rfl
   have HAP := Lib.hid hap'
   clear hap'
   go_wp2_with fail
   go_ret
   exact ⟨by simp [HAP.out], hB⟩
theorem reach_drop {l : List Sc} {k : Nat} {s : Sc} {age n : Int} (h : l[k]? = some s) : reachP (l.drop k) age n = if s.timer ≤ age then n else reachP (l.drop (k + 1)) age s.to_ := by
 rw [drop_cons h, reachP]
set_option maxHeartbeats 2000000 in
theorem reach_m (m : Ma) (v : MaM) (age : Int) (w : World) (h : MaIs w m v) : Calls Tryz.prog 25 #[.agg (maC m v), .int .i64 age] w fun r w' => r = .returned (.int .i64 (reachP m.sects age 0)) ∧ Below w.heap.size w w' := by
 have hO : Own w _ [_] := (Own.nil w).alloc 42 (maC m v) _ rfl
 have hcl := hO.b0.cell
 have hl2 := h.l2
 unfold maC at *
 go_enter Tryz.func25, Tryz.ntmps25
 go_wp2
 go_loopw [5, 11] (fun s i wr => ∃ (k : Nat) (x : Int), i = .int .i64 k ∧ k ≤ v.n2 ∧ s = .int .i64 x ∧ Hid (reachP m.sects age 0 = reachP (m.sects.drop k) age x) ∧ Below w.heap.size w wr) (fun _ i _ => v.n2 - (intOf i).toNat)
 case atStart => exact ⟨0, 0, rfl, Nat.zero_le _, rfl, Lib.hid (by simp), hO.below⟩
 case round =>
  clear hO hcl
  obtain ⟨k, x, rfl, hk, rfl, hap, hB⟩ := hrel
  by_cases hlt : k < v.n2
  ·
   obtain ⟨s, hs⟩ := get_some h.e2 hlt
   obtain ⟨g, off, hA2, hg, a0, a1⟩ := h.sects.sc hs
   have kk0 := (hB.cell (p := ⟨g, off + k * 2, none⟩) hg).trans a0
   have kk1 := (hB.cell (p := ⟨g, off + k * 2 + 1, none⟩) hg).trans a1
   have hstep := reach_drop (age := age) (n := x) hs
   rw [← hap.out] at hstep
   obtain ⟨x1, x2⟩ := s
   simp only at kk0 kk1 hstep
   have hO1 : Own wr _ [_] := (Own.nil wr).alloc 122 #[.int .i64 x1, .int .i64 x2] _ rfl
   have hcm := hO1.b0.cell
   clear hs a0 a1
   simp only [hA2]
   by_cases h1 : x2 ≤ age
   ·
    rw [if_pos h1] at hstep
    have HS := Lib.hid hstep
    clear hstep hap
    go_wp2_with fail
    go_ret
    exact ⟨by simp [HS.out], below_then hB hO1.below⟩
   ·
    rw [if_neg h1] at hstep
    have HS := Lib.hid hstep
    clear hstep hap
    go_wp2_with fail
    go_roundw
    case rel => exact ⟨k + 1, x1, by go_num, by omega, rfl, HS, below_then hB hO1.below⟩
    case measure => simp [intOf]; omega
  ·
   obtain rfl : k = v.n2 := by omega
   have hap' : reachP m.sects age 0 = x := by
    rw [hap.out, List.drop_of_length_le (by rw [h.e2]; exact Nat.le_refl _)]
    rfl
   have HAP := Lib.hid hap'
   clear hap'
   go_wp2_with fail
   go_ret
   exact ⟨by simp [HAP.out], hB⟩
end Go.Proofs.YtkaggddmhjifjaaGreatDoor
