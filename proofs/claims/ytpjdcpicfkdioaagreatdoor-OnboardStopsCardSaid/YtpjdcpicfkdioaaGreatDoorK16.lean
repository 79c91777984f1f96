/- Texts in one: Place SpanO. -/
import Derived.Test.YtpjdcpicfkdioaaGreatDoorK15
import Derived.Test.YtpjdcpicfkdioaaGreatDoorK07
import Derived.Test.YtpjdcpicfkdioaaGreatDoorK12
/- place: Right, along, over. -/
set_option linter.unusedSimpArgs false
set_option linter.unusedVariables false
namespace Go.Proofs.YtpjdcpicfkdioaaGreatDoor
open Go.RowKit Go.Shelf

abbrev psV (p : Ps) : Value := .agg #[.int .i64 p.edge, .int .i64 p.at_, .bool p.rev]
theorem right_parts {t : Tp} {p : Ps} (h : rightT t p = true) : checkT t = 0 ∧ thereT t p.edge = true ∧ 0 ≤ p.at_ ∧ p.at_ ≤ edgeT t p.edge := by
  unfold rightT at h
  simp only [Bool.and_eq_true, decide_eq_true_eq] at h
  exact ⟨h.1.1.1, h.1.1.2, h.1.2, h.2⟩
theorem edge_at {w : World} {t : Tp} {m : TpM} (h : TpIs w t m) {e : Int} (he : thereT t e = true) : ∃ (i : Nat) (v : Int) (g off : Nat), e = (i : Int) ∧ i < m.n1 ∧ edgeT t e = v ∧ m.A1 = some ⟨g, off, none⟩ ∧ (∀ W, Below w.heap.size w W → W.cell? ⟨g, off + i, none⟩ = some (.int .i64 v)) ∧ v ∈ t.edges := by
  obtain ⟨i, rfl, hil, hie⟩ := there_int he
  obtain ⟨ge, offe, hge, hgb, c0⟩ := h.lies.edges.int hil
  refine ⟨i, _, ge, offe, rfl, by rw [← h.e1]; exact hil, hie, hge, fun W hW => (hW.cell (p := ⟨ge, offe + i, none⟩) hgb).trans c0, ?_⟩
  rw [getElem!_pos t.edges i hil]
  exact List.getElem_mem hil
set_option maxRecDepth 8000 in
set_option maxHeartbeats 4000000 in
theorem right_m {w : World} {t : Tp} {m : TpM} (h : TpIs w t m) (p : Ps) : Calls Tryz.prog 35 #[.agg m.cells, psV p] w fun e w' => e = .returned (.bool (rightT t p)) ∧ Below w.heap.size w w' := by
  have hO : Own w _ [_, _] := Own.start2 w 27 38 m.cells #[.int .i64 p.edge, .int .i64 p.at_, .bool p.rev]
  have hcl := hO.b0.cell
  have hcp := hO.b1.cell
  have hck := fun W (hW : Below w.heap.size w W) => check_m (h.below hW)
  have hr : rightT t p = (decide (checkT t = 0) && thereT t p.edge && decide (0 ≤ p.at_) && decide (p.at_ ≤ edgeT t p.edge)) := rfl
  have hth : thereT t p.edge = (decide (0 ≤ p.edge) && decide (p.edge < t.edges.length)) := rfl
  rw [h.e1] at hth
  have hedge := @edge_at w t m h p.edge
  obtain ⟨pe, pa, pr⟩ := p
  simp only at hr hth hedge hO hcl hcp
  generalize rightT t ⟨pe, pa, pr⟩ = rr at *
  generalize thereT t pe = th at *
  by_cases h1 : checkT t = 0
  · rw [h1] at hck
    by_cases h2 : 0 ≤ pe
    · have f2 : decide (0 ≤ pe) = true := by simpa using h2
      by_cases h3 : pe < m.n1
      · have f3 : decide (pe < (m.n1 : Int)) = true := by simpa using h3
        rw [f2, f3] at hth
        subst hth
        obtain ⟨i, ev, g, off, rfl, hin, hie, hA1, hke, _⟩ := hedge rfl
        rw [hie, h1] at hr
        clear hedge hie h1 f2 f3
        simp only [TpM.cells, hA1] at hck hcl hO ⊢
        by_cases h4 : 0 ≤ pa
        · have f4 : decide (0 ≤ pa) = true := by simpa using h4
          by_cases h5 : pa ≤ ev
          · have f5 : decide (pa ≤ ev) = true := by simpa using h5
            obtain rfl : rr = true := by rw [hr, f4, f5]; rfl
            clear hr
            go_enter Tryz.func35, Tryz.ntmps35
            go_wp2_with fail
            apply wp_region_lex
            case hFl =>
              intro u
              simp only [List.map, fill, Act.put, List.setIfInBounds_toArray, List.set_cons_zero, List.set_cons_succ, Nat.reduceAdd, Nat.zero_add]
              rfl
            case hm => kernel_rfl
            case hB => kernel_rfl
            case hap => kernel_rfl
            repeat (first
              | (apply Lex.is
                 · (intro u w' hk hd
                    simp [Waited, Region.binds, Is] at hd
                    refine looked_want ?_ ?_
                    · first
                      | rfl
                      | (simp [Region.wanted, yielded, hd]; done)
                    intro K hK
                    have hO2 := hO.grow hk; have hB2 := hO2.below; have hca := hO2.b0.cell; have hcb := hO2.b1.cell; have ke1 := hke _ hB2
                    go_wp2_with (go_at_call 68; (with_reducible refine (hck _ hB2).mono ?_); rintro e w3 ⟨rfl, hb3⟩)
                    try simp only [hd] at hK
                    refine hK _ _ ?_ rfl
                    first | exact Below.refl _ _ | exact hb3))
              | (refine Lex.is (c := undef) ?_ ?_
                 · (intro u w' hk hd
                    simp [Waited, Region.binds, Is] at hd
                    refine looked_skip ?_ rfl
                    first
                    | (simp [Region.wanted, yielded, hd]; done)
                    | (simp [Region.wanted, yielded, hd, undef]; done))))
            apply Lex.nil
            intro u w' hk hd
            simp only [List.nil_append, List.cons_append] at hd
            have hlast := hd 32 _ rfl
            simp only [Is] at hlast
            clear hd
            simp only [hlast]
            have hB3 := (hO.grow hk).below
            go_wp2_with fail
            go_ret
            exact ⟨by simp, hB3⟩
          · have f5 : decide (pa ≤ ev) = false := by simpa using h5
            obtain rfl : rr = false := by rw [hr, f4, f5]; rfl
            clear hr
            go_enter Tryz.func35, Tryz.ntmps35
            go_wp2_with fail
            apply wp_region_lex
            case hFl =>
              intro u
              simp only [List.map, fill, Act.put, List.setIfInBounds_toArray, List.set_cons_zero, List.set_cons_succ, Nat.reduceAdd, Nat.zero_add]
              rfl
            case hm => kernel_rfl
            case hB => kernel_rfl
            case hap => kernel_rfl
            repeat (first
              | (apply Lex.is
                 · (intro u w' hk hd
                    simp [Waited, Region.binds, Is] at hd
                    refine looked_want ?_ ?_
                    · first
                      | rfl
                      | (simp [Region.wanted, yielded, hd]; done)
                    intro K hK
                    have hO2 := hO.grow hk; have hB2 := hO2.below; have hca := hO2.b0.cell; have hcb := hO2.b1.cell; have ke1 := hke _ hB2
                    go_wp2_with (go_at_call 68; (with_reducible refine (hck _ hB2).mono ?_); rintro e w3 ⟨rfl, hb3⟩)
                    try simp only [hd] at hK
                    refine hK _ _ ?_ rfl
                    first | exact Below.refl _ _ | exact hb3))
              | (refine Lex.is (c := undef) ?_ ?_
                 · (intro u w' hk hd
                    simp [Waited, Region.binds, Is] at hd
                    refine looked_skip ?_ rfl
                    first
                    | (simp [Region.wanted, yielded, hd]; done)
                    | (simp [Region.wanted, yielded, hd, undef]; done))))
            apply Lex.nil
            intro u w' hk hd
            simp only [List.nil_append, List.cons_append] at hd
            have hlast := hd 32 _ rfl
            simp only [Is] at hlast
            clear hd
            simp only [hlast]
            have hB3 := (hO.grow hk).below
            go_wp2_with fail
            go_ret
            exact ⟨by simp, hB3⟩
        · have f4 : decide (0 ≤ pa) = false := by simpa using h4
          obtain rfl : rr = false := by rw [hr, f4]; rfl
          clear hr
          go_enter Tryz.func35, Tryz.ntmps35
          go_wp2_with fail
          apply wp_region_lex
          case hFl =>
            intro u
            simp only [List.map, fill, Act.put, List.setIfInBounds_toArray, List.set_cons_zero, List.set_cons_succ, Nat.reduceAdd, Nat.zero_add]
            rfl
          case hm => kernel_rfl
          case hB => kernel_rfl
          case hap => kernel_rfl
          repeat (first
            | (apply Lex.is
               · (intro u w' hk hd
                  simp [Waited, Region.binds, Is] at hd
                  refine looked_want ?_ ?_
                  · first
                    | rfl
                    | (simp [Region.wanted, yielded, hd]; done)
                  intro K hK
                  have hO2 := hO.grow hk; have hB2 := hO2.below; have hca := hO2.b0.cell; have hcb := hO2.b1.cell
                  go_wp2_with (go_at_call 68; (with_reducible refine (hck _ hB2).mono ?_); rintro e w3 ⟨rfl, hb3⟩)
                  try simp only [hd] at hK
                  refine hK _ _ ?_ rfl
                  first | exact Below.refl _ _ | exact hb3))
            | (refine Lex.is (c := undef) ?_ ?_
               · (intro u w' hk hd
                  simp [Waited, Region.binds, Is] at hd
                  refine looked_skip ?_ rfl
                  first
                  | (simp [Region.wanted, yielded, hd]; done)
                  | (simp [Region.wanted, yielded, hd, undef]; done))))
          apply Lex.nil
          intro u w' hk hd
          simp only [List.nil_append, List.cons_append] at hd
          have hlast := hd 32 _ rfl
          simp only [Is] at hlast
          clear hd
          simp only [hlast]
          have hB3 := (hO.grow hk).below
          go_wp2_with fail
          go_ret
          exact ⟨by simp, hB3⟩
      · have f3 : decide (pe < (m.n1 : Int)) = false := by simpa using h3
        obtain rfl : rr = false := by rw [hr, hth, f3]; simp
        clear hr hth hedge h1
        unfold TpM.cells at *
        go_enter Tryz.func35, Tryz.ntmps35
        go_wp2_with fail
        apply wp_region_lex
        case hFl =>
          intro u
          simp only [List.map, fill, Act.put, List.setIfInBounds_toArray, List.set_cons_zero, List.set_cons_succ, Nat.reduceAdd, Nat.zero_add]
          rfl
        case hm => kernel_rfl
        case hB => kernel_rfl
        case hap => kernel_rfl
        repeat (first
          | (apply Lex.is
             · (intro u w' hk hd
                simp [Waited, Region.binds, Is] at hd
                refine looked_want ?_ ?_
                · first
                  | rfl
                  | (simp [Region.wanted, yielded, hd]; done)
                intro K hK
                have hO2 := hO.grow hk; have hB2 := hO2.below; have hca := hO2.b0.cell; have hcb := hO2.b1.cell
                go_wp2_with (go_at_call 68; (with_reducible refine (hck _ hB2).mono ?_); rintro e w3 ⟨rfl, hb3⟩)
                try simp only [hd] at hK
                refine hK _ _ ?_ rfl
                first | exact Below.refl _ _ | exact hb3))
          | (refine Lex.is (c := undef) ?_ ?_
             · (intro u w' hk hd
                simp [Waited, Region.binds, Is] at hd
                refine looked_skip ?_ rfl
                first
                | (simp [Region.wanted, yielded, hd]; done)
                | (simp [Region.wanted, yielded, hd, undef]; done))))
        apply Lex.nil
        intro u w' hk hd
        simp only [List.nil_append, List.cons_append] at hd
        have hlast := hd 32 _ rfl
        simp only [Is] at hlast
        clear hd
        simp only [hlast]
        have hB3 := (hO.grow hk).below
        go_wp2_with fail
        go_ret
        exact ⟨by simp, hB3⟩
    · have f2 : decide (0 ≤ pe) = false := by simpa using h2
      obtain rfl : rr = false := by rw [hr, hth, f2]; simp
      clear hr hth hedge h1
      unfold TpM.cells at *
      go_enter Tryz.func35, Tryz.ntmps35
      go_wp2_with fail
      apply wp_region_lex
      case hFl =>
        intro u
        simp only [List.map, fill, Act.put, List.setIfInBounds_toArray, List.set_cons_zero, List.set_cons_succ, Nat.reduceAdd, Nat.zero_add]
        rfl
      case hm => kernel_rfl
      case hB => kernel_rfl
      case hap => kernel_rfl
      repeat (first
        | (apply Lex.is
           · (intro u w' hk hd
              simp [Waited, Region.binds, Is] at hd
              refine looked_want ?_ ?_
              · first
                | rfl
                | (simp [Region.wanted, yielded, hd]; done)
              intro K hK
              have hO2 := hO.grow hk; have hB2 := hO2.below; have hca := hO2.b0.cell; have hcb := hO2.b1.cell
              go_wp2_with (go_at_call 68; (with_reducible refine (hck _ hB2).mono ?_); rintro e w3 ⟨rfl, hb3⟩)
              try simp only [hd] at hK
              refine hK _ _ ?_ rfl
              first | exact Below.refl _ _ | exact hb3))
        | (refine Lex.is (c := undef) ?_ ?_
           · (intro u w' hk hd
              simp [Waited, Region.binds, Is] at hd
              refine looked_skip ?_ rfl
              first
              | (simp [Region.wanted, yielded, hd]; done)
              | (simp [Region.wanted, yielded, hd, undef]; done))))
      apply Lex.nil
      intro u w' hk hd
      simp only [List.nil_append, List.cons_append] at hd
      have hlast := hd 32 _ rfl
      simp only [Is] at hlast
      clear hd
      simp only [hlast]
      have hB3 := (hO.grow hk).below
      go_wp2_with fail
      go_ret
      exact ⟨by simp, hB3⟩
  · obtain rfl : rr = false := by rw [hr, decide_eq_false h1]; rfl
    generalize checkT t = ck at *
    have f1 : (ck == 0) = false := by simpa using h1
    clear hr hth hedge h1
    unfold TpM.cells at *
    go_enter Tryz.func35, Tryz.ntmps35
    go_wp2_with fail
    apply wp_region_lex
    case hFl =>
      intro u
      simp only [List.map, fill, Act.put, List.setIfInBounds_toArray, List.set_cons_zero, List.set_cons_succ, Nat.reduceAdd, Nat.zero_add]
      rfl
    case hm => kernel_rfl
    case hB => kernel_rfl
    case hap => kernel_rfl
    repeat (first
      | (apply Lex.is
         · (intro u w' hk hd
            simp [Waited, Region.binds, Is] at hd
            refine looked_want ?_ ?_
            · first
              | rfl
              | (simp [Region.wanted, yielded, hd]; done)
            intro K hK
            have hO2 := hO.grow hk; have hB2 := hO2.below; have hca := hO2.b0.cell; have hcb := hO2.b1.cell
            go_wp2_with (go_at_call 68; (with_reducible refine (hck _ hB2).mono ?_); rintro e w3 ⟨rfl, hb3⟩)
            try simp only [hd] at hK
            refine hK _ _ ?_ rfl
            first | exact Below.refl _ _ | exact hb3))
      | (refine Lex.is (c := undef) ?_ ?_
         · (intro u w' hk hd
            simp [Waited, Region.binds, Is] at hd
            refine looked_skip ?_ rfl
            first
            | (simp [Region.wanted, yielded, hd]; done)
            | (simp [Region.wanted, yielded, hd, undef]; done))))
    apply Lex.nil
    intro u w' hk hd
    simp only [List.nil_append, List.cons_append] at hd
    have hlast := hd 32 _ rfl
    simp only [Is] at hlast
    clear hd
    simp only [hlast]
    have hB3 := (hO.grow hk).below
    go_wp2_with fail
    go_ret
    exact ⟨by simp, hB3⟩
set_option maxRecDepth 8000 in
set_option maxHeartbeats 4000000 in
theorem along_m {w : World} {t : Tp} {m : TpM} (h : TpIs w t m) (p : Ps) (hp : rightT t p = true) : Calls Tryz.prog 105 #[.agg m.cells, psV p] w fun e w' => e = .returned (.int .i64 (alongT t p)) ∧ Below w.heap.size w w' := by
  have hO : Own w _ [_, _] := Own.start2 w 27 38 m.cells #[.int .i64 p.edge, .int .i64 p.at_, .bool p.rev]
  have hcl := hO.b0.cell
  have hcp := hO.b1.cell
  obtain ⟨hc, hth, h0, h1⟩ := right_parts hp
  obtain ⟨i, ev, g, off, hi, hin, hie, hA1, hke, hev⟩ := edge_at h hth
  have hmax := check_edges hc ev hev
  have hr : alongT t p = if p.rev then ev - p.at_ else p.at_ := by unfold alongT; rw [hie]
  rw [hie] at h1
  obtain ⟨pe, pa, pr⟩ := p
  simp only at hi h0 h1 hr hO hcl hcp
  subst hi
  generalize alongT t ⟨i, pa, pr⟩ = rr at *
  clear hp hth hc hie hev
  simp only [TpM.cells, hA1] at hcl hO ⊢
  cases pr with
  | false =>
    obtain rfl : rr = pa := hr
    go_enter Tryz.func105, Tryz.ntmps105
    go_wp2_with fail
    go_ret
    exact ⟨rfl, hO.below⟩
  | true =>
    obtain rfl : rr = ev - pa := hr
    go_enter Tryz.func105, Tryz.ntmps105
    go_wp2_with fail
    apply wp_region_lex
    case hFl =>
      intro u
      simp only [List.map, fill, Act.put, List.setIfInBounds_toArray, List.set_cons_zero, List.set_cons_succ, Nat.reduceAdd, Nat.zero_add]
      rfl
    case hm => kernel_rfl
    case hB => kernel_rfl
    case hap => kernel_rfl
    repeat (first
      | (apply Lex.is
         · (intro u w' hk hd
            simp [Waited, Region.binds, Is] at hd
            refine looked_want ?_ ?_
            · first
              | rfl
              | (simp [Region.wanted, yielded, hd]; done)
            intro K hK
            have hO2 := hO.grow hk; have hB2 := hO2.below; have hca := hO2.b0.cell; have hcb := hO2.b1.cell; have ke1 := hke _ hB2
            go_wp2_with (fail)
            try simp only [hd] at hK
            refine hK _ _ ?_ rfl
            first | exact Below.refl _ _ | exact hb3))
      | (refine Lex.is (c := undef) ?_ ?_
         · (intro u w' hk hd
            simp [Waited, Region.binds, Is] at hd
            refine looked_skip ?_ rfl
            first
            | (simp [Region.wanted, yielded, hd]; done)
            | (simp [Region.wanted, yielded, hd, undef]; done))))
    apply Lex.nil
    intro u w' hk hd
    simp only [List.nil_append, List.cons_append] at hd
    have hlast := hd 9 _ rfl
    simp only [Is] at hlast
    clear hd
    simp only [hlast]
    have hB3 := (hO.grow hk).below
    go_wp2_with fail
    go_ret
    exact ⟨rfl, hB3⟩
end Go.Proofs.YtpjdcpicfkdioaaGreatDoor
/- span.Over, where it answers. -/
set_option linter.unusedSimpArgs false
set_option linter.unusedVariables false
namespace Go.Proofs.YtpjdcpicfkdioaaGreatDoor
open Go.RowKit Go.Shelf Go.Sort

theorem enter_spover1 : ∀ args w, (callFunc 107 args).run Tryz.prog w = .ok (.enter 107 args) w := enters_of Tryz.func107 (by kernel_rfl) (by rfl)
theorem spover1_k (n : Int) (w : World) : Calls Tryz.prog 107 #[.int .i64 n] w fun r w' => r = .returned (.bool (decide (n < 1) || decide (1000000 < n))) ∧ w' = w := by
  by_cases h1 : n < 1
  · have e1 : decide (n < 1) = true := by simpa using h1
    go_enter Tryz.func107, Tryz.ntmps107
    go_wp2
    go_ret
    exact ⟨by simp [h1], rfl⟩
  · have e1 : decide (n < 1) = false := by simpa using h1
    go_enter Tryz.func107, Tryz.ntmps107
    go_wp2
    go_ret
    exact ⟨by simp [h1], rfl⟩
set_option maxRecDepth 8000 in
set_option maxHeartbeats 8000000 in
theorem spanover_k {w : World} {t : Tp} {m : TpM} (h : TpIs w t m) (A : Option Addr) (n c : Nat) (path : List St) (fr to_ : Int) (hp : RowsAt encSt w A path) (hn : path.length = n) (hl : n ≤ 100) (hed : ∀ n ∈ t.edges, 1 ≤ n ∧ n ≤ 1000000) (hl0 : lenE t path = 0) (h0 : 0 ≤ fr) (h1 : fr ≤ to_) (h2 : to_ ≤ lenT t path) : Calls Tryz.prog 59 #[.agg m.cells, .slice A n c, .int .i64 fr, .int .i64 to_] w fun e w' => ∃ A' c', e = .returned (.tuple #[.slice A' (normT (piecesT t fr to_ path 0)).length c', .int .i64 0]) ∧ RowsAt encSp w' A' (normT (piecesT t fr to_ path 0)) ∧ Below w.heap.size w w' := by
  have hO : Own w _ [_] := (Own.nil w).alloc 27 m.cells _ rfl
  have hcl := hO.b0.cell
  have hle := fun W (hW : Below w.heap.size w W) => len_m (h.below hW) A n c path (hp.below hW) hn hl
  have hq1 := h.q1
  have hany := fun W (hW : Below w.heap.size w W) => anyI_k 107 enter_spover1 #[] (fun n => decide (n < 1) || decide (1000000 < n)) m.A1 m.n1 m.c1 t.edges W (fun W' x hW' => (spover1_k x W').mono fun _ _ ⟨h1, h2⟩ => ⟨h1, 0, h2⟩) (h.lies.edges.below hW) h.e1 (by have := h.l1; omega)
  have hno : t.edges.any (fun n => decide (n < 1) || decide (1000000 < n)) = false := by
    rw [List.any_eq_false]
    intro n hn
    have := hed n hn
    simp
    omega
  have hok := len_ok hl0
  have hlb : lenT t path ≤ 100000000 := by
    have := lens_nonneg hed path hok.2.2.1
    rw [len_is hed hl0]
    omega
  simp only [hno, hl0] at hany hle
  have HT := Lib.hid hok.2.2.1
  have HE := Lib.hid hed
  have HN := Lib.hid hn
  have hn40 : n ≤ 40 := by omega
  clear hok hno hl0 hq1 hn hed
  generalize hlt : lenT t path = lt at *
  generalize hpp : piecesT t fr to_ path 0 = pp at *
  have HP := Lib.hid hpp
  clear hlt hpp
  have e1 : decide (fr < 0) = false := by simpa using h0
  have e2 : decide (to_ < fr) = false := by simpa using h1
  have e3 : decide (lt < to_) = false := by simpa using h2
  unfold TpM.cells at *
  go_enter Tryz.func59, Tryz.ntmps59
  go_wp2_with (first
    | (go_at_call 103; (with_reducible refine (hle _ hO.below).mono ?_); rintro e w1 ⟨rfl, hb1⟩; replace hO := hO.grow hb1; have hcl2 := hO.b0.cell)
    | (go_at_call 108; (with_reducible refine (hany _ hO.below).mono ?_); rintro e w2 ⟨rfl, hb2⟩; replace hO := hO.grow hb2; have hcl3 := hO.b0.cell))
  clear hle hany hcl hcl2 hcl3
  go_loopw [13, 14, 48] (fun s a i wr => ∃ (k : Nat) (at_ : Int) (A1 : Option Addr) (c1 : Nat) (zs : List Sp), i = .int .i64 k ∧ k ≤ n ∧ a = .int .i64 at_ ∧ 0 ≤ at_ ∧ at_ ≤ 1000000 * k ∧ s = .slice A1 k c1 ∧ Hid (zs ++ piecesT t fr to_ (path.drop k) at_ = pp) ∧ Hid (zs.length = k) ∧ OwnRows encSp 83 wr (w.heap.size + 1) A1 c1 zs ∧ Own w wr [(w.heap.size, 27, #[.slice m.A1 m.n1 m.c1, .slice m.A2 m.n2 m.c2, .slice m.A3 m.n3 m.c3, .slice m.A4 m.n4 m.c4])]) (fun _ _ i _ => n - (intOf i).toNat)
  case atStart => exact ⟨0, 0, none, 0, [], rfl, Nat.zero_le _, rfl, Int.le_refl _, Int.le_refl _, rfl, Lib.hid (by simpa using HP.out), Lib.hid rfl, OwnRows.nil _ _, hO⟩
  case round =>
    clear hO
    obtain ⟨k, at_, A1, c1, zs, rfl, hk, rfl, ha0, ha1, rfl, hJ, hK, ho, hO⟩ := hrel
    have hcl := hO.b0.cell
    have hsz : w.heap.size + 1 ≤ wr.heap.size := hO.b0.lt
    by_cases hlt : k < n
    · obtain ⟨s, hs⟩ := get_some HN.out (show k < n by omega)
      obtain ⟨g, off, rfl, hg, a0, a1⟩ := hp.st hs
      have ka0 := fun W (hW : Below w.heap.size w W) => (hW.cell (p := ⟨g, off + k * 2, none⟩) hg).trans a0
      have ka1 := fun W (hW : Below w.heap.size w W) => (hW.cell (p := ⟨g, off + k * 2 + 1, none⟩) hg).trans a1
      have kk0 := ka0 _ hO.below
      have kk1 := ka1 _ hO.below
      have hr := HT.out s (List.mem_of_getElem? hs)
      obtain ⟨i, hi, hil, hie⟩ := there_int hr
      obtain ⟨ge, offe, hge, hgb, c0⟩ := h.lies.edges.int hil
      have ke0 := fun W (hW : Below w.heap.size w W) => (hW.cell (p := ⟨ge, offe + i, none⟩) hgb).trans c0
      have hi1 := h.e1
      have hin : i < m.n1 := by omega
      have hev := HE.out (t.edges[i]!) (by rw [getElem!_pos t.edges i hil]; exact List.getElem_mem hil)
      have hd1 : path.drop k = s :: path.drop (k + 1) := by
        obtain ⟨h1, h2⟩ := List.getElem?_eq_some_iff.1 hs
        rw [List.drop_eq_getElem_cons h1, h2]
      have hJ' := hJ.out
      rw [hd1, piecesT, pieceT, hie] at hJ'
      try simp only at hJ'
      generalize t.edges[i]! = ev at *
      clear hs hr hie hil c0 hi1 a0 a1 hd1
      obtain ⟨x1, x2⟩ := s
      simp only at hi
      subst hi
      simp only [hge] at hO hcl
      have ke1 := ke0 _ hO.below
      have hO1 := Own.new1 hO 98 #[.int .i64 i, .bool x2]
      have hcm := hO1.b0.cell
      have hcn := hO1.b1.cell
      have ke2 := ke0 _ hO1.below
      cases x2 with
      | false =>
        simp only [Bool.false_eq_true, if_false] at hJ'
        have HJ := Lib.hid hJ'
        clear hJ' hJ ka0 ka1
        have hB3 := Own.start3 wr 98 83 83 #[.int .i64 i, .bool false] #[.int .i64 i, .int .i64 (max (fr - at_) 0), .int .i64 (min (to_ - at_) ev)] #[.int .i64 i, .int .i64 (max (fr - at_) 0), .int .i64 (min (to_ - at_) ev)]
        go_wp2_with (at_builtin; refine wpList_app_rows rowSp rfl _ _ rfl (w.heap.size + 1) A1 c1 zs k rfl hK.out (ho.below hB3.below) _ 1 [⟨i, max (fr - at_) 0, min (to_ - at_) ev⟩] 1 rfl rfl (rowSp_one hB3.b2) (by omega) (by decide) (Nat.le_trans hsz hB3.below.size) ?_; intro A2 c2 w5 ho5 hg5 _)
        go_roundw
        case rel =>
          refine ⟨.slice A2 (k + 1) c2, .int .i64 (at_ + ev), _, _, _, .int .i64 ((k + 1 : Nat) : Int), ⟨k + 1, rfl, by omega, at_ + ev, rfl, by omega, by omega, A2, c2, rfl, zs ++ [⟨i, max (fr - at_) 0, min (to_ - at_) ev⟩], Lib.hid ?_, Lib.hid (by rw [List.length_append, hK.out]; rfl), ho5, ?_⟩, rfl, rfl, rfl, rfl, rfl, rfl⟩
          · rw [List.append_assoc]
            exact HJ.out
          · refine Own.grown (hO.grow hB3.below) hg5 fun g hg => ?_
            have := ho.row_ge g hg
            refine ⟨by omega, fun x hx => ?_⟩
            simp only [List.mem_singleton] at hx
            subst hx
            simp only
            omega
        case measure => simp [intOf]; omega
      | true =>
        simp only [if_true] at hJ'
        have HJ := Lib.hid hJ'
        clear hJ' hJ ka0 ka1
        have hB3 := Own.start3 wr 98 83 83 #[.int .i64 i, .bool true] #[.int .i64 i, .int .i64 (ev - min (to_ - at_) ev), .int .i64 (ev - max (fr - at_) 0)] #[.int .i64 i, .int .i64 (ev - min (to_ - at_) ev), .int .i64 (ev - max (fr - at_) 0)]
        go_wp2_with (at_builtin; refine wpList_app_rows rowSp rfl _ _ rfl (w.heap.size + 1) A1 c1 zs k rfl hK.out (ho.below hB3.below) _ 1 [⟨i, ev - min (to_ - at_) ev, ev - max (fr - at_) 0⟩] 1 rfl rfl (rowSp_one hB3.b2) (by omega) (by decide) (Nat.le_trans hsz hB3.below.size) ?_; intro A2 c2 w5 ho5 hg5 _)
        go_roundw
        case rel =>
          refine ⟨.slice A2 (k + 1) c2, .int .i64 (at_ + ev), _, _, _, .int .i64 ((k + 1 : Nat) : Int), ⟨k + 1, rfl, by omega, at_ + ev, rfl, by omega, by omega, A2, c2, rfl, zs ++ [⟨i, ev - min (to_ - at_) ev, ev - max (fr - at_) 0⟩], Lib.hid ?_, Lib.hid (by rw [List.length_append, hK.out]; rfl), ho5, ?_⟩, rfl, rfl, rfl, rfl, rfl, rfl⟩
          · rw [List.append_assoc]
            exact HJ.out
          · refine Own.grown (hO.grow hB3.below) hg5 fun g hg => ?_
            have := ho.row_ge g hg
            refine ⟨by omega, fun x hx => ?_⟩
            simp only [List.mem_singleton] at hx
            subst hx
            simp only
            omega
        case measure => simp [intOf]; omega
    · obtain rfl : k = n := by omega
      have hzz : zs = pp := by
        have := hJ.out
        rw [List.drop_of_length_le (by rw [HN.out]; exact Nat.le_refl _), piecesT, List.append_nil] at this
        exact this
      subst hzz
      have hno := fun W (hW : Below wr.heap.size wr W) => norm_k A1 k c1 zs W (ho.below hW).rows hK.out (by omega)
      clear hJ
      go_wp2_with (first
        | (go_at_call 28; (with_reducible refine (hno _ (Below.refl _ _)).mono ?_); rintro e w5 ⟨A9, c9, rfl, ho9, hb9⟩))
      go_ret2
      exact ⟨A9, c9, rfl, ho9.rows, below_then hO.below hb9⟩
end Go.Proofs.YtpjdcpicfkdioaaGreatDoor
