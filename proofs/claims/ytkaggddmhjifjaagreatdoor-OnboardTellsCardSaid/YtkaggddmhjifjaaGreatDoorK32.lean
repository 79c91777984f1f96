/- Texts in one: DocPlace DocPlanA. -/
import Derived.Test.YtkaggddmhjifjaaGreatDoorK31
import Derived.Test.YtkaggddmhjifjaaGreatDoorK13
import Derived.Test.YtkaggddmhjifjaaGreatDoorK12
import Derived.Test.YtkaggddmhjifjaaGreatDoorK05
set_option linter.unusedSimpArgs false
set_option linter.unusedVariables false
namespace Go.Proofs.YtkaggddmhjifjaaGreatDoor
open Go.RowKit Go.Shelf
set_option maxRecDepth 8000 in
set_option maxHeartbeats 8000000 in
theorem rright_m {w : World} {t : Tp} {m : TpM} (h : TpIs w t m) (p : Ps) : Calls Tryz.prog 60 #[.agg m.cells, psV p] w fun e w' => e = .returned (.bool (rightT t p)) ∧ Below w.heap.size w w' := by
 have hO : Own w _ [_, _] := Own.start2 w 27 38 m.cells #[.int .i64 p.edge, .int .i64 p.at_, .bool p.rev]
 have hcl := hO.b0.cell
 have hcp := hO.b1.cell
 have hck := fun W (hW : Below w.heap.size w W) => rcheck_m (h.below hW)
 have hr : rightT t p = (decide (checkT t = 0) && thereT t p.edge && decide (0 ≤ p.at_) && decide (p.at_ ≤ edgeT t p.edge)) := rfl
 have hth : thereT t p.edge = (decide (0 ≤ p.edge) && decide (p.edge < t.edges.length)) := rfl
 rw [h.e1] at hth
 have hedge := @edge_at w t m h p.edge
 obtain ⟨pe, pa, pr⟩ := p
 simp only at hr hth hedge hO hcl hcp
 generalize rightT t ⟨pe, pa, pr⟩ = rr at *
 generalize thereT t pe = th at *
 by_cases h1 : checkT t = 0
 ·
  rw [h1] at hck
  by_cases h2 : 0 ≤ pe
  ·
   have f2 : decide (0 ≤ pe) = true := by simpa using h2
   by_cases h3 : pe < m.n1
   ·
    have f3 : decide (pe < (m.n1 : Int)) = true := by simpa using h3
    rw [f2, f3] at hth
    subst hth
    obtain ⟨i, ev, g, off, rfl, hin, hie, hA1, hke, _⟩ := hedge rfl
    rw [hie, h1] at hr
    clear hedge hie h1 f2 f3
    simp only [TpM.cells, hA1] at hck hcl hO ⊢
    by_cases h4 : 0 ≤ pa
    ·
     have f4 : decide (0 ≤ pa) = true := by simpa using h4
     by_cases h5 : pa ≤ ev
     ·
      have f5 : decide (pa ≤ ev) = true := by simpa using h5
      obtain rfl : rr = true := by rw [hr, f4, f5]; rfl
      clear hr
      go_enter Tryz.func60, Tryz.ntmps60
      go_wp2_with (first
       |(go_at_call 111; (with_reducible refine (hck _ hO.below).mono ?_); rintro e w1 ⟨rfl, hb1⟩; replace hO := hO.grow hb1))
      clear hcl hcp hck
      apply wp_region_lex
      case hFl => intro u; simp only [List.map, fill, Act.put, List.setIfInBounds_toArray, List.set_cons_zero, List.set_cons_succ, Nat.reduceAdd, Nat.zero_add]; rfl
      case hm => kernel_rfl
      case hB => kernel_rfl
      case hap => kernel_rfl
      repeat (first | (apply Lex.is; · (intro u w' hk hd; simp [Waited, Region.binds, Is] at hd; refine looked_want ?_ ?_; (· (first | rfl | (simp [Region.wanted, yielded, hd]; done))); intro K hK; have hO2 := hO.grow hk; have hca := hO2.b0.cell; have hcb := hO2.b1.cell ; have ke1 := hke _ hO2.below; go_wp2_with (fail); (try simp only [hd] at hK); refine hK _ _ ?_ rfl; first | exact Below.refl _ _ | exact hb3)) | (refine Lex.is (c := undef) ?_ ?_; · (intro u w' hk hd; simp [Waited, Region.binds, Is] at hd; refine looked_skip ?_ rfl; first | (simp [Region.wanted, yielded, hd]; done) | (simp [Region.wanted, yielded, hd, undef]; done))))
      apply Lex.nil
      intro u w' hk hd
      simp only [List.nil_append, List.cons_append] at hd
      have hlast := hd 31 _ rfl
      simp only [Is] at hlast
      clear hd
      simp only [hlast]
      clear hlast
      have hB3 := (hO.grow hk).below
      go_wp2_with fail
      go_ret
      exact ⟨by simp, hB3⟩
     ·
      have f5 : decide (pa ≤ ev) = false := by simpa using h5
      obtain rfl : rr = false := by rw [hr, f4, f5]; rfl
      clear hr
      go_enter Tryz.func60, Tryz.ntmps60
      go_wp2_with (first
       |(go_at_call 111; (with_reducible refine (hck _ hO.below).mono ?_); rintro e w1 ⟨rfl, hb1⟩; replace hO := hO.grow hb1))
      clear hcl hcp hck
      apply wp_region_lex
      case hFl => intro u; simp only [List.map, fill, Act.put, List.setIfInBounds_toArray, List.set_cons_zero, List.set_cons_succ, Nat.reduceAdd, Nat.zero_add]; rfl
      case hm => kernel_rfl
      case hB => kernel_rfl
      case hap => kernel_rfl
      repeat (first | (apply Lex.is; · (intro u w' hk hd; simp [Waited, Region.binds, Is] at hd; refine looked_want ?_ ?_; (· (first | rfl | (simp [Region.wanted, yielded, hd]; done))); intro K hK; have hO2 := hO.grow hk; have hca := hO2.b0.cell; have hcb := hO2.b1.cell ; have ke1 := hke _ hO2.below; go_wp2_with (fail); (try simp only [hd] at hK); refine hK _ _ ?_ rfl; first | exact Below.refl _ _ | exact hb3)) | (refine Lex.is (c := undef) ?_ ?_; · (intro u w' hk hd; simp [Waited, Region.binds, Is] at hd; refine looked_skip ?_ rfl; first | (simp [Region.wanted, yielded, hd]; done) | (simp [Region.wanted, yielded, hd, undef]; done))))
      apply Lex.nil
      intro u w' hk hd
      simp only [List.nil_append, List.cons_append] at hd
      have hlast := hd 31 _ rfl
      simp only [Is] at hlast
      clear hd
      simp only [hlast]
      clear hlast
      have hB3 := (hO.grow hk).below
      go_wp2_with fail
      go_ret
      exact ⟨by simp, hB3⟩
    ·
     have f4 : decide (0 ≤ pa) = false := by simpa using h4
     obtain rfl : rr = false := by rw [hr, f4]; rfl
     clear hr
     go_enter Tryz.func60, Tryz.ntmps60
     go_wp2_with (first
      |(go_at_call 111; (with_reducible refine (hck _ hO.below).mono ?_); rintro e w1 ⟨rfl, hb1⟩; replace hO := hO.grow hb1))
     clear hcl hcp hck
     apply wp_region_lex
     case hFl => intro u; simp only [List.map, fill, Act.put, List.setIfInBounds_toArray, List.set_cons_zero, List.set_cons_succ, Nat.reduceAdd, Nat.zero_add]; rfl
     case hm => kernel_rfl
     case hB => kernel_rfl
     case hap => kernel_rfl
     repeat (first | (apply Lex.is; · (intro u w' hk hd; simp [Waited, Region.binds, Is] at hd; refine looked_want ?_ ?_; (· (first | rfl | (simp [Region.wanted, yielded, hd]; done))); intro K hK; have hO2 := hO.grow hk; have hca := hO2.b0.cell; have hcb := hO2.b1.cell; go_wp2_with (fail); (try simp only [hd] at hK); refine hK _ _ ?_ rfl; first | exact Below.refl _ _ | exact hb3)) | (refine Lex.is (c := undef) ?_ ?_; · (intro u w' hk hd; simp [Waited, Region.binds, Is] at hd; refine looked_skip ?_ rfl; first | (simp [Region.wanted, yielded, hd]; done) | (simp [Region.wanted, yielded, hd, undef]; done))))
     apply Lex.nil
     intro u w' hk hd
     simp only [List.nil_append, List.cons_append] at hd
     have hlast := hd 31 _ rfl
     simp only [Is] at hlast
     clear hd
     simp only [hlast]
     clear hlast
     have hB3 := (hO.grow hk).below
     go_wp2_with fail
     go_ret
     exact ⟨by simp, hB3⟩
   ·
    have f3 : decide (pe < (m.n1 : Int)) = false := by simpa using h3
    obtain rfl : rr = false := by rw [hr, hth, f3]; simp
    clear hr hth hedge h1
    unfold TpM.cells at *
    go_enter Tryz.func60, Tryz.ntmps60
    go_wp2_with (first
     |(go_at_call 111; (with_reducible refine (hck _ hO.below).mono ?_); rintro e w1 ⟨rfl, hb1⟩; replace hO := hO.grow hb1))
    clear hcl hcp hck
    apply wp_region_lex
    case hFl => intro u; simp only [List.map, fill, Act.put, List.setIfInBounds_toArray, List.set_cons_zero, List.set_cons_succ, Nat.reduceAdd, Nat.zero_add]; rfl
    case hm => kernel_rfl
    case hB => kernel_rfl
    case hap => kernel_rfl
    repeat (first | (apply Lex.is; · (intro u w' hk hd; simp [Waited, Region.binds, Is] at hd; refine looked_want ?_ ?_; (· (first | rfl | (simp [Region.wanted, yielded, hd]; done))); intro K hK; have hO2 := hO.grow hk; have hca := hO2.b0.cell; have hcb := hO2.b1.cell; go_wp2_with (fail); (try simp only [hd] at hK); refine hK _ _ ?_ rfl; first | exact Below.refl _ _ | exact hb3)) | (refine Lex.is (c := undef) ?_ ?_; · (intro u w' hk hd; simp [Waited, Region.binds, Is] at hd; refine looked_skip ?_ rfl; first | (simp [Region.wanted, yielded, hd]; done) | (simp [Region.wanted, yielded, hd, undef]; done))))
    apply Lex.nil
    intro u w' hk hd
    simp only [List.nil_append, List.cons_append] at hd
    have hlast := hd 31 _ rfl
    simp only [Is] at hlast
    clear hd
    simp only [hlast]
    clear hlast
    have hB3 := (hO.grow hk).below
    go_wp2_with fail
    go_ret
    exact ⟨by simp, hB3⟩
  ·
   have f2 : decide (0 ≤ pe) = false := by simpa using h2
   obtain rfl : rr = false := by rw [hr, hth, f2]; simp
   clear hr hth hedge h1
   unfold TpM.cells at *
   go_enter Tryz.func60, Tryz.ntmps60
   go_wp2_with (first
    |(go_at_call 111; (with_reducible refine (hck _ hO.below).mono ?_); rintro e w1 ⟨rfl, hb1⟩; replace hO := hO.grow hb1))
   clear hcl hcp hck
   apply wp_region_lex
   case hFl => intro u; simp only [List.map, fill, Act.put, List.setIfInBounds_toArray, List.set_cons_zero, List.set_cons_succ, Nat.reduceAdd, Nat.zero_add]; rfl
   case hm => kernel_rfl
   case hB => kernel_rfl
   case hap => kernel_rfl
   repeat (first | (apply Lex.is; · (intro u w' hk hd; simp [Waited, Region.binds, Is] at hd; refine looked_want ?_ ?_; (· (first | rfl | (simp [Region.wanted, yielded, hd]; done))); intro K hK; have hO2 := hO.grow hk; have hca := hO2.b0.cell; have hcb := hO2.b1.cell; go_wp2_with (fail); (try simp only [hd] at hK); refine hK _ _ ?_ rfl; first | exact Below.refl _ _ | exact hb3)) | (refine Lex.is (c := undef) ?_ ?_; · (intro u w' hk hd; simp [Waited, Region.binds, Is] at hd; refine looked_skip ?_ rfl; first | (simp [Region.wanted, yielded, hd]; done) | (simp [Region.wanted, yielded, hd, undef]; done))))
   apply Lex.nil
   intro u w' hk hd
   simp only [List.nil_append, List.cons_append] at hd
   have hlast := hd 31 _ rfl
   simp only [Is] at hlast
   clear hd
   simp only [hlast]
   clear hlast
   have hB3 := (hO.grow hk).below
   go_wp2_with fail
   go_ret
   exact ⟨by simp, hB3⟩
 ·
  obtain rfl : rr = false := by rw [hr, decide_eq_false h1]; rfl
  generalize checkT t = ck at *
  have f1 : (ck == 0) = false := by simpa using h1
  clear hr hth hedge h1
  unfold TpM.cells at *
  go_enter Tryz.func60, Tryz.ntmps60
  go_wp2_with (first
   |(go_at_call 111; (with_reducible refine (hck _ hO.below).mono ?_); rintro e w1 ⟨rfl, hb1⟩; replace hO := hO.grow hb1))
  clear hcl hcp hck
  apply wp_region_lex
  case hFl => intro u; simp only [List.map, fill, Act.put, List.setIfInBounds_toArray, List.set_cons_zero, List.set_cons_succ, Nat.reduceAdd, Nat.zero_add]; rfl
  case hm => kernel_rfl
  case hB => kernel_rfl
  case hap => kernel_rfl
  repeat (first | (apply Lex.is; · (intro u w' hk hd; simp [Waited, Region.binds, Is] at hd; refine looked_want ?_ ?_; (· (first | rfl | (simp [Region.wanted, yielded, hd]; done))); intro K hK; have hO2 := hO.grow hk; have hca := hO2.b0.cell; have hcb := hO2.b1.cell; go_wp2_with (fail); (try simp only [hd] at hK); refine hK _ _ ?_ rfl; first | exact Below.refl _ _ | exact hb3)) | (refine Lex.is (c := undef) ?_ ?_; · (intro u w' hk hd; simp [Waited, Region.binds, Is] at hd; refine looked_skip ?_ rfl; first | (simp [Region.wanted, yielded, hd]; done) | (simp [Region.wanted, yielded, hd, undef]; done))))
  apply Lex.nil
  intro u w' hk hd
  simp only [List.nil_append, List.cons_append] at hd
  have hlast := hd 31 _ rfl
  simp only [Is] at hlast
  clear hd
  simp only [hlast]
  clear hlast
  have hB3 := (hO.grow hk).below
  go_wp2_with fail
  go_ret
  exact ⟨by simp, hB3⟩
def aheadP (t : Tp) (p : Ps) : Int := if p.rev then p.at_ else edgeT t p.edge - p.at_
set_option maxRecDepth 8000 in
set_option maxHeartbeats 4000000 in
theorem rahead_m {w : World} {t : Tp} {m : TpM} (h : TpIs w t m) (p : Ps) (hp : rightT t p = true) : Calls Tryz.prog 116 #[.agg m.cells, psV p] w fun e w' => e = .returned (.int .i64 (aheadP t p)) ∧ Below w.heap.size w w' := by
 have hO : Own w _ [_, _] := Own.start2 w 27 38 m.cells #[.int .i64 p.edge, .int .i64 p.at_, .bool p.rev]
 have hcl := hO.b0.cell
 have hcp := hO.b1.cell
 obtain ⟨h1, h2, h3, h4⟩ := right_parts hp
 obtain ⟨i, ev, g, off, hi, hin, hie, hA1, hke, hev⟩ := edge_at h h2
 have hb := check_edges h1 _ hev
 obtain ⟨pe, pa, pr⟩ := p
 simp only at hi hcp hO h3 h4 hie ⊢
 subst hi
 have ha : aheadP t ⟨i, pa, pr⟩ = if pr then pa else ev - pa := by unfold aheadP; simp only; rw [hie]
 rw [ha]
 rw [hie] at h4
 clear ha hie h1 h2 hp hev
 simp only [TpM.cells, hA1] at hcl hO ⊢
 cases pr with
 | true =>
  go_enter Tryz.func116, Tryz.ntmps116
  go_wp2_with fail
  go_ret
  exact ⟨by simp, hO.below⟩
 | false =>
  go_enter Tryz.func116, Tryz.ntmps116
  go_wp2_with fail
  clear hcl hcp
  apply wp_region_lex
  case hFl => intro u; simp only [List.map, fill, Act.put, List.setIfInBounds_toArray, List.set_cons_zero, List.set_cons_succ, Nat.reduceAdd, Nat.zero_add]; rfl
  case hm => kernel_rfl
  case hB => kernel_rfl
  case hap => kernel_rfl
  repeat (first | (apply Lex.is; · (intro u w' hk hd; simp [Waited, Region.binds, Is] at hd; refine looked_want ?_ ?_; (· (first | rfl | (simp [Region.wanted, yielded, hd]; done))); intro K hK; have hO2 := hO.grow hk; have hca := hO2.b0.cell; have hcb := hO2.b1.cell; have ke1 := hke _ hO2.below; go_wp2_with (fail); (try simp only [hd] at hK); refine hK _ _ ?_ rfl; first | exact Below.refl _ _ | exact hb3)) | (refine Lex.is (c := undef) ?_ ?_; · (intro u w' hk hd; simp [Waited, Region.binds, Is] at hd; refine looked_skip ?_ rfl; first | (simp [Region.wanted, yielded, hd]; done) | (simp [Region.wanted, yielded, hd, undef]; done))))
  apply Lex.nil
  intro u w' hk hd
  simp only [List.nil_append, List.cons_append] at hd
  have hlast := hd 9 _ rfl
  simp only [Is] at hlast
  clear hd
  simp only [hlast]
  clear hlast
  have hB3 := (hO.grow hk).below
  go_wp2_with fail
  go_ret
  exact ⟨by simp, hB3⟩
theorem ahead_along (t : Tp) (p : Ps) (n : Int) : n + edgeT t p.edge - aheadP t p = n + alongT t p := by
 unfold aheadP alongT
 split <;> omega
set_option maxRecDepth 8000 in
set_option maxHeartbeats 16000000 in
theorem ron_m {w : World} {t : Tp} {m : TpM} (h : TpIs w t m) (A : Option Addr) (n c : Nat) (path : List St) (p : Ps) (hp : RowsAt encSt w A path) (hn : path.length = n) (hl : n ≤ 100) : Calls Tryz.prog 64 #[.agg m.cells, .slice A n c, psV p] w fun e w' => e = .returned (.tuple #[.int .i64 (onT t path p).1, .int .i64 (onT t path p).2]) ∧ Below w.heap.size w w' := by
 have hO : Own w _ [_, _] := Own.start2 w 27 38 m.cells #[.int .i64 p.edge, .int .i64 p.at_, .bool p.rev]
 have hcl := hO.b0.cell
 have hcp := hO.b1.cell
 have hri := fun W (hW : Below w.heap.size w W) => rright_m (h.below hW) p
 have hle := fun W (hW : Below w.heap.size w W) => rlen_m (h.below hW) A n c path (hp.below hW) hn hl
 have hah := fun (hr : rightT t p = true) W (hW : Below w.heap.size w W) => rahead_m (h.below hW) p hr
 have hon : onT t path p = if rightT t p = false then (0, 1) else if lenE t path ≠ 0 then (0, lenE t path) else match aheadT t ⟨p.edge, p.rev⟩ path 0 with
  | none => (0, 4)
  | some n => (n + alongT t p, 0) := rfl
 have hlo := @len_ok t path
 have hpa := @right_parts t p
 have hal := ahead_along t p
 have HN := Lib.hid hn
 clear hn
 generalize onT t path p = r at *
 generalize lenE t path = le at *
 generalize lenT t path = lt at *
 generalize rightT t p = ri at *
 unfold TpM.cells at *
 cases ri with
 | false =>
  rw [if_pos rfl] at hon
  subst hon
  go_enter Tryz.func64, Tryz.ntmps64
  go_wp2_with (first
   |(go_at_call 60; (with_reducible refine (hri _ hO.below).mono ?_); rintro e w1 ⟨rfl, hb1⟩; replace hO := hO.grow hb1))
  go_ret2
  exact ⟨rfl, hO.below⟩
 | true =>
  rw [if_neg (by simp)] at hon
  by_cases hl0 : le = 0
  ·
   subst hl0
   rw [if_neg (by simp)] at hon
   obtain ⟨k1, k2, k3, k4⟩ := hlo rfl
   obtain ⟨p1, p2, p3, p4⟩ := hpa rfl
   replace hah := hah rfl
   have hed := check_edges p1
   have hab : 0 ≤ aheadP t p ∧ aheadP t p ≤ edgeT t p.edge := by unfold aheadP; split <;> omega
   have hee := (edge_len hed p2).2.2
   have HK := Lib.hid k3
   have HED := Lib.hid hed
   have HON := Lib.hid hon
   clear hlo hpa k2 k3 k4 p1 p2 p3 p4 hed hon
   generalize aheadP t p = ah at *
   generalize alongT t p = al at *
   obtain ⟨pe, pa, pr⟩ := p
   simp only at hri hah hO hcl hcp hal hab hee HON
   generalize hpe : edgeT t pe = pv at *
   go_enter Tryz.func64, Tryz.ntmps64
   go_wp2_with (first
    |(go_at_call 60; (with_reducible refine (hri _ hO.below).mono ?_); rintro e w1 ⟨rfl, hb1⟩; replace hO := hO.grow hb1; have hcl1 := hO.b0.cell; have hcp1 := hO.b1.cell)
    |(go_at_call 114; (with_reducible refine (hle _ hO.below).mono ?_); rintro e w2 ⟨rfl, hb2⟩; replace hO := hO.grow hb2))
   clear hcl hcp hcl1 hcp1 hri hle hb1 hb2
   go_loopw [11, 12] (fun s x wr => ∃ (k : Nat) (a : Int), x = .int .i64 k ∧ k ≤ n ∧ s = .int .i64 a ∧ 0 ≤ a ∧ a ≤ 1000000 * k ∧ Hid (aheadT t ⟨pe, pr⟩ path 0 = aheadT t ⟨pe, pr⟩ (path.drop k) a) ∧ Own w wr [(w.heap.size, 27, #[.slice m.A1 m.n1 m.c1, .slice m.A2 m.n2 m.c2, .slice m.A3 m.n3 m.c3, .slice m.A4 m.n4 m.c4]), (w.heap.size + 1, 38, #[.int .i64 pe, .int .i64 pa, .bool pr])]) (fun _ x _ => n - (intOf x).toNat)
   case atStart => exact ⟨0, 0, rfl, Nat.zero_le _, rfl, Int.le_refl _, Int.le_refl _, Lib.hid (by simp), hO⟩
   case round =>
    clear hO
    obtain ⟨k, a, rfl, hk, rfl, ha0, ha1, hap, hO⟩ := hrel
    by_cases hlt : k < n
    ·
     have hdc : decide ((k : Int) < (n : Int)) = true := by simpa using hlt
     obtain ⟨s, hs⟩ := get_some HN.out hlt
     obtain ⟨g, off, rfl, hg, a0, a1⟩ := hp.st hs
     have ka0 := fun W (hW : Below w.heap.size w W) => (hW.cell (p := ⟨g, off + k * 2, none⟩) hg).trans a0
     have ka1 := fun W (hW : Below w.heap.size w W) => (hW.cell (p := ⟨g, off + k * 2 + 1, none⟩) hg).trans a1
     have hth := HK.out s (List.mem_of_getElem? hs)
     obtain ⟨i, ev, ge, offe, hi, hin, hie, hA1, hke, hev⟩ := edge_at h hth
     have hevb := HED.out _ hev
     have hstep := ahead_drop (t := t) (x := ⟨pe, pr⟩) (n := a) hs
     rw [← hap.out] at hstep
     have hcl := hO.b0.cell
     rw [hie] at hstep
     obtain ⟨x1, x2⟩ := s
     simp only at ka0 ka1 hi hstep hie
     subst hi
     simp only [hA1] at hO hcl hah ⊢
     clear hs a0 a1 hth hev hap
     go_wp2_with fail
     clear hcl hdc
     apply wp_region_lextf (Below (wr).heap.size) (fun W => below_drewN (Below.refl _ _) 1) (fun _ _ _ h1 h2 => h1.trans h2) (fun _ => Below (wr).heap.size) (fun _ _ _ h => h) (fun _ _ => True) (fun _ => trivial) (fun _ _ _ _ _ _ _ => trivial)
     case hFl =>
      intro u
      simp only [List.map, List.dropLast, fill, Act.put, List.setIfInBounds_toArray, List.set_cons_zero, List.set_cons_succ, Nat.reduceAdd, Nat.zero_add]
      rfl
     case hm => kernel_rfl
     case hB => kernel_rfl
     case hA => kernel_rfl
     case hap => kernel_rfl
     repeat (first
      |(
        apply LexTL.is
        ·
         (
         intro u w' hk hpre hd
         simp [Waited, Region.binds, Is] at hd
         refine lookedT_want ?_ ?_
         ·
          first
          | rfl
          |(simp [Region.wanted, yielded, hd]; done)
         intro K hK
         have hO2 := hO.grow hk; have hca := hO2.b0.cell; have m0 := ka0 _ hO2.below; have m1 := hke _ hO2.below
         go_wp2_with (fail)
         try simp only [hd] at hK
         refine hK _ _ ?_ rfl
         first | exact Below.refl _ _ | exact hb3.mono hk.size)))
     refine LexTL.last ?_ ?_
     ·
      intro i' j Φ hij _ hj v W W' hΦ ht
      have hm := List.mem_of_getElem? hj
      simp only [List.nil_append, List.cons_append, List.mem_cons, List.not_mem_nil, or_false] at hm
      repeat (first | (rcases hm with rfl | hm; exact hΦ) | (subst hm; exact hΦ))
     intro u w2 hk2 _ hd
     simp only [List.nil_append, List.cons_append] at hd
     refine ⟨rfl, ?_⟩
     intro K hK
     have hlast := hd 10 _ rfl
     simp only [Is] at hlast
     clear hd
     simp only [hlast]
     clear hlast
     replace hO := hO.grow hk2
     clear hk2
     go_wp2_with fail
     by_cases h1 : (i : Int) = pe
     ·
      have f1 : ((i : Int) == pe) = true := by simpa using h1
      by_cases h2 : x2 = pr
      ·
       have f2 : (x2 == pr) = true := by simpa using h2
       rw [if_pos (by rw [h1, h2])] at hstep
       have hres := HON.out
       rw [hstep] at hres
       simp only at hres
       have hev2 : ev = pv := by rw [← hie, h1, hpe]
       have HRS := Lib.hid hres
       have HEV := Lib.hid hev2
       clear hstep hres h1 h2 hie hev2
       apply wp_region_lex
       case hFl => intro u; simp only [List.map, fill, Act.put, List.setIfInBounds_toArray, List.set_cons_zero, List.set_cons_succ, Nat.reduceAdd, Nat.zero_add]; rfl
       case hm => kernel_rfl
       case hB => kernel_rfl
       case hap => kernel_rfl
       repeat (first | (apply Lex.is; · (intro u w' hk hd; simp [Waited, Region.binds, Is] at hd; refine looked_want ?_ ?_; (· (first | rfl | (simp [Region.wanted, yielded, hd]; done))); intro K hK; have hO2 := hO.grow hk; have hca := hO2.b0.cell; have hcb := hO2.b1.cell; have m0 := ka0 _ hO2.below; have m1 := ka1 _ hO2.below; go_wp2_with (fail); (try simp only [hd] at hK); refine hK _ _ ?_ rfl; first | exact Below.refl _ _ | exact hb3)) | (refine Lex.is (c := undef) ?_ ?_; · (intro u w' hk hd; simp [Waited, Region.binds, Is] at hd; refine looked_skip ?_ rfl; first | (simp [Region.wanted, yielded, hd]; done) | (simp [Region.wanted, yielded, hd, undef]; done))))
       apply Lex.nil
       intro u w' hk hd
       simp only [List.nil_append, List.cons_append] at hd
       have hlast := hd 17 _ rfl
       simp only [Is] at hlast
       clear hd
       simp only [hlast]
       clear hlast
       replace hO := hO.grow hk
       have hca := hO.b0.cell
       have hcb := hO.b1.cell
       have hw1 : wrap64 (a + ev - ah) = a + ev - ah := by simp only [wrap64]; omega
       go_wp2_with (first
        |(go_at_call 116; (with_reducible refine (hah _ hO.below).mono ?_); rintro e w3 ⟨rfl, hb3⟩; replace hO := hO.grow hb3))
       go_ret2
       exact ⟨by rw [HRS.out]; simp [← hal a, HEV.out], hO.below⟩
      ·
       have f2 : (x2 == pr) = false := by simpa using h2
       rw [if_neg (by simp [h2])] at hstep
       have HST := Lib.hid hstep
       clear hstep h1 h2 hie
       apply wp_region_lex
       case hFl => intro u; simp only [List.map, fill, Act.put, List.setIfInBounds_toArray, List.set_cons_zero, List.set_cons_succ, Nat.reduceAdd, Nat.zero_add]; rfl
       case hm => kernel_rfl
       case hB => kernel_rfl
       case hap => kernel_rfl
       repeat (first | (apply Lex.is; · (intro u w' hk hd; simp [Waited, Region.binds, Is] at hd; refine looked_want ?_ ?_; (· (first | rfl | (simp [Region.wanted, yielded, hd]; done))); intro K hK; have hO2 := hO.grow hk; have hca := hO2.b0.cell; have hcb := hO2.b1.cell; have m0 := ka0 _ hO2.below; have m1 := ka1 _ hO2.below; go_wp2_with (fail); (try simp only [hd] at hK); refine hK _ _ ?_ rfl; first | exact Below.refl _ _ | exact hb3)) | (refine Lex.is (c := undef) ?_ ?_; · (intro u w' hk hd; simp [Waited, Region.binds, Is] at hd; refine looked_skip ?_ rfl; first | (simp [Region.wanted, yielded, hd]; done) | (simp [Region.wanted, yielded, hd, undef]; done))))
       apply Lex.nil
       intro u w' hk hd
       simp only [List.nil_append, List.cons_append] at hd
       have hlast := hd 17 _ rfl
       simp only [Is] at hlast
       clear hd
       simp only [hlast]
       clear hlast
       have hO3 := hO.grow hk
       go_wp2_with fail
       go_roundw
       case rel => exact ⟨k + 1, a + ev, by go_num, by omega, rfl, by omega, by omega, HST, hO3⟩
       case measure => simp [intOf]; omega
     ·
      have f1 : ((i : Int) == pe) = false := by simpa using h1
      rw [if_neg (by simp [h1])] at hstep
      have HST := Lib.hid hstep
      clear hstep h1 hie
      apply wp_region_lex
      case hFl => intro u; simp only [List.map, fill, Act.put, List.setIfInBounds_toArray, List.set_cons_zero, List.set_cons_succ, Nat.reduceAdd, Nat.zero_add]; rfl
      case hm => kernel_rfl
      case hB => kernel_rfl
      case hap => kernel_rfl
      repeat (first | (apply Lex.is; · (intro u w' hk hd; simp [Waited, Region.binds, Is] at hd; refine looked_want ?_ ?_; (· (first | rfl | (simp [Region.wanted, yielded, hd]; done))); intro K hK; have hO2 := hO.grow hk; have hca := hO2.b0.cell; have hcb := hO2.b1.cell; have m0 := ka0 _ hO2.below; have m1 := ka1 _ hO2.below; go_wp2_with (fail); (try simp only [hd] at hK); refine hK _ _ ?_ rfl; first | exact Below.refl _ _ | exact hb3)) | (refine Lex.is (c := undef) ?_ ?_; · (intro u w' hk hd; simp [Waited, Region.binds, Is] at hd; refine looked_skip ?_ rfl; first | (simp [Region.wanted, yielded, hd]; done) | (simp [Region.wanted, yielded, hd, undef]; done))))
      apply Lex.nil
      intro u w' hk hd
      simp only [List.nil_append, List.cons_append] at hd
      have hlast := hd 17 _ rfl
      simp only [Is] at hlast
      clear hd
      simp only [hlast]
      clear hlast
      have hO3 := hO.grow hk
      go_wp2_with fail
      go_roundw
      case rel => exact ⟨k + 1, a + ev, by go_num, by omega, rfl, by omega, by omega, HST, hO3⟩
      case measure => simp [intOf]; omega
    ·
     obtain rfl : k = n := by omega
     have hdc : decide ((k : Int) < (k : Int)) = false := by simp
     have hres := HON.out
     rw [hap.out, List.drop_of_length_le (by rw [HN.out]; exact Nat.le_refl _)] at hres
     simp only [aheadT] at hres
     have HRS := Lib.hid hres
     clear hap hres
     go_wp2_with fail
     go_ret2
     exact ⟨by simp [HRS.out], hO.below⟩
  ·
   rw [if_pos hl0] at hon
   subst hon
   have f0 : (le != 0) = true := by simpa using hl0
   go_enter Tryz.func64, Tryz.ntmps64
   go_wp2_with (first
    |(go_at_call 60; (with_reducible refine (hri _ hO.below).mono ?_); rintro e w1 ⟨rfl, hb1⟩; replace hO := hO.grow hb1; have hcl1 := hO.b0.cell; have hcp1 := hO.b1.cell)
    |(go_at_call 114; (with_reducible refine (hle _ hO.below).mono ?_); rintro e w2 ⟨rfl, hb2⟩; replace hO := hO.grow hb2))
   go_ret2
   exact ⟨rfl, hO.below⟩
open Go.RowKit Go.Shelf
theorem over_take {p : List St} {k : Nat} {s : St} {e : Int} (h : p[k]? = some s) : overP (p.take (k + 1)) e = (overP (p.take k) e || decide (s.edge = e)) := by
 unfold overP
 rw [take_snoc' h, List.any_append]
 simp
theorem over_mono {p : List St} {k i : Nat} {e : Int} (hk : k ≤ i) (h : overP (p.take k) e = true) : overP (p.take i) e = true := by
 unfold overP at *
 rw [List.any_eq_true] at h ⊢
 obtain ⟨x, hx, hd⟩ := h
 refine ⟨x, ?_, hd⟩
 have : p.take k = (p.take i).take k := by rw [List.take_take, Nat.min_eq_left hk]
 rw [this] at hx
 exact List.mem_of_mem_take hx
set_option maxRecDepth 8000 in
set_option maxHeartbeats 4000000 in
theorem rtwice_k (A : Option Addr) (n c : Nat) (p : List St) (w : World) (hp : RowsAt encSt w A p) (hn : p.length = n) (hl : n ≤ 100) : Calls Tryz.prog 113 #[.slice A n c] w fun r w' => r = .returned (.bool (twiceP [] p)) ∧ Below w.heap.size w w' := by
 have HN := Lib.hid hn
 clear hn
 go_enter Tryz.func113, Tryz.ntmps113
 go_wp2
 go_loopw [3] (fun i wr => ∃ k : Nat, i = .int .i64 k ∧ k ≤ n ∧ Hid (twiceP [] p = twiceP (p.take k) (p.drop k)) ∧ Below w.heap.size w wr) (fun i _ => n - (intOf i).toNat)
 case atStart => exact ⟨0, rfl, Nat.zero_le _, Lib.hid (by simp), Below.refl _ _⟩
 case round =>
  obtain ⟨i, rfl, hi, hst, hw⟩ := hrel
  by_cases hlt : i < n
  ·
   have hdc : decide ((i : Int) < (n : Int)) = true := by simpa using hlt
   obtain ⟨s, hs⟩ := get_some HN.out hlt
   obtain ⟨g, off, rfl, hg, a0, _⟩ := hp.st hs
   have ka0 := fun W (hW : Below w.heap.size w W) => (hW.cell (p := ⟨g, off + i * 2, none⟩) hg).trans a0
   have hstep := twice_step hs
   rw [← hst.out] at hstep
   obtain ⟨se, sr⟩ := s
   simp only at hstep ka0
   have HSP := Lib.hid hstep
   clear hstep hst a0 hs
   go_wp2_with fail
   clear hdc
   go_loopw [4] (fun k wr => ∃ q : Nat, k = .int .i64 q ∧ q ≤ i ∧ Hid (overP (p.take q) se = false) ∧ Below w.heap.size w wr) (fun k _ => i - (intOf k).toNat)
   case atStart => exact ⟨0, rfl, Nat.zero_le _, Lib.hid rfl, hw⟩
   case round =>
    clear hw
    obtain ⟨q, rfl, hq, hov, hw⟩ := hrel
    by_cases hlt2 : q < i
    ·
     have hdc2 : decide ((q : Int) < (i : Int)) = true := by simpa using hlt2
     obtain ⟨x, hx⟩ := get_some HN.out (show q < n by omega)
     obtain ⟨g', off', e, _, b0, _⟩ := hp.st hx
     simp only [Option.some.injEq, Addr.mk.injEq] at e
     obtain ⟨rfl, rfl, -⟩ := e
     have kb0 := fun W (hW : Below w.heap.size w W) => (hW.cell (p := ⟨g, off + q * 2, none⟩) hg).trans b0
     have hov2 := over_take (e := se) hx
     rw [hov.out, Bool.false_or] at hov2
     obtain ⟨x1, x2⟩ := x
     simp only at hov2 kb0
     clear hx b0 hov
     by_cases h1 : x1 = se
     ·
      have f1 : (x1 == se) = true := by simpa using h1
      rw [decide_eq_true h1] at hov2
      have hyes : twiceP [] p = true := by rw [HSP.out, over_mono (by omega) hov2]; rfl
      have HY := Lib.hid hyes
      clear hov2 hyes h1
      go_wp2_with fail
      apply wp_region_lex
      case hFl => intro u; simp only [List.map, fill, Act.put, List.setIfInBounds_toArray, List.set_cons_zero, List.set_cons_succ, Nat.reduceAdd, Nat.zero_add]; rfl
      case hm => kernel_rfl
      case hB => kernel_rfl
      case hap => kernel_rfl
      repeat (first | (apply Lex.is; · (intro u w' hk hd; simp [Waited, Region.binds, Is] at hd; refine looked_want ?_ ?_; (· (first | rfl | (simp [Region.wanted, yielded, hd]; done))); intro K hK; have hB2 := below_then hw hk; have m0 := ka0 _ hB2; have m1 := kb0 _ hB2; go_wp2_with (fail); (try simp only [hd] at hK); refine hK _ _ ?_ rfl; first | exact Below.refl _ _ | exact hb3)) | (refine Lex.is (c := undef) ?_ ?_; · (intro u w' hk hd; simp [Waited, Region.binds, Is] at hd; refine looked_skip ?_ rfl; first | (simp [Region.wanted, yielded, hd]; done) | (simp [Region.wanted, yielded, hd, undef]; done))))
      apply Lex.nil
      intro u w' hk hd
      simp only [List.nil_append, List.cons_append] at hd
      have hlast := hd 10 _ rfl
      simp only [Is] at hlast
      clear hd
      simp only [hlast]
      clear hlast
      have hB3 := below_then hw hk
      go_wp2_with fail
      go_ret
      exact ⟨by simp [HY.out], hB3⟩
     ·
      have f1 : (x1 == se) = false := by simpa using h1
      rw [decide_eq_false h1] at hov2
      have HOV := Lib.hid hov2
      clear hov2 h1
      go_wp2_with fail
      apply wp_region_lex
      case hFl => intro u; simp only [List.map, fill, Act.put, List.setIfInBounds_toArray, List.set_cons_zero, List.set_cons_succ, Nat.reduceAdd, Nat.zero_add]; rfl
      case hm => kernel_rfl
      case hB => kernel_rfl
      case hap => kernel_rfl
      repeat (first | (apply Lex.is; · (intro u w' hk hd; simp [Waited, Region.binds, Is] at hd; refine looked_want ?_ ?_; (· (first | rfl | (simp [Region.wanted, yielded, hd]; done))); intro K hK; have hB2 := below_then hw hk; have m0 := ka0 _ hB2; have m1 := kb0 _ hB2; go_wp2_with (fail); (try simp only [hd] at hK); refine hK _ _ ?_ rfl; first | exact Below.refl _ _ | exact hb3)) | (refine Lex.is (c := undef) ?_ ?_; · (intro u w' hk hd; simp [Waited, Region.binds, Is] at hd; refine looked_skip ?_ rfl; first | (simp [Region.wanted, yielded, hd]; done) | (simp [Region.wanted, yielded, hd, undef]; done))))
      apply Lex.nil
      intro u w' hk hd
      simp only [List.nil_append, List.cons_append] at hd
      have hlast := hd 10 _ rfl
      simp only [Is] at hlast
      clear hd
      simp only [hlast]
      clear hlast
      have hB3 := below_then hw hk
      go_wp2_with fail
      go_roundw
      case rel => exact ⟨q + 1, by go_num, by omega, HOV, hB3⟩
      case measure => simp [intOf]; omega
    ·
     obtain rfl : q = i := by omega
     have hdc2 : decide ((q : Int) < (q : Int)) = false := by simp
     have hst2 : twiceP [] p = twiceP (p.take (q + 1)) (p.drop (q + 1)) := by rw [HSP.out, hov.out, Bool.false_or]
     have HST := Lib.hid hst2
     clear hst2 hov
     go_wp2_with fail
     go_roundw
     case rel => exact ⟨q + 1, by go_num, by omega, HST, hw⟩
     case measure => simp [intOf]; omega
  ·
   obtain rfl : i = n := by omega
   have hdc : decide ((i : Int) < (i : Int)) = false := by simp
   have hno : twiceP [] p = false := by
    rw [hst.out, List.drop_of_length_le (by rw [HN.out]; exact Nat.le_refl _)]
    rfl
   have HNO := Lib.hid hno
   clear hst hno
   go_wp2_with fail
   go_ret
   exact ⟨by simp [HNO.out], hw⟩
set_option maxHeartbeats 4000000 in
theorem rreach_m (m : Ma) (v : MaM) (age : Int) (w : World) (h : MaIs w m v) : Calls Tryz.prog 28 #[.agg (maC m v), .int .i64 age] w fun r w' => r = .returned (.int .i64 (reachP m.sects age 0)) ∧ Below w.heap.size w w' := by
 have hO : Own w _ [_] := (Own.nil w).alloc 42 (maC m v) _ rfl
 have hcl := hO.b0.cell
 have hl2 := h.l2
 unfold maC at *
 go_enter Tryz.func28, Tryz.ntmps28
 go_wp2
 go_loopw [5, 6] (fun s i wr => ∃ (k : Nat) (x : Int), i = .int .i64 k ∧ k ≤ v.n2 ∧ s = .int .i64 x ∧ Hid (reachP m.sects age 0 = reachP (m.sects.drop k) age x) ∧ Own w wr [(w.heap.size, 42, #[.int .i64 m.ref, .bool m.rev, .slice v.A1 v.n1 v.c1, .slice v.A2 v.n2 v.c2, .int .i64 m.gap])]) (fun _ i _ => v.n2 - (intOf i).toNat)
 case atStart => exact ⟨0, 0, rfl, Nat.zero_le _, rfl, Lib.hid (by simp), hO⟩
 case round =>
  clear hO hcl
  obtain ⟨k, x, rfl, hk, rfl, hap, hO⟩ := hrel
  have hcl := hO.b0.cell
  by_cases hlt : k < v.n2
  ·
   have hdc : decide ((k : Int) < (v.n2 : Int)) = true := by simpa using hlt
   obtain ⟨s, hs⟩ := get_some h.e2 hlt
   obtain ⟨g, off, hA2, hg, a0, a1⟩ := h.sects.sc hs
   have kk0 := (hO.below.cell (p := ⟨g, off + k * 2, none⟩) hg).trans a0
   have kk1 := (hO.below.cell (p := ⟨g, off + k * 2 + 1, none⟩) hg).trans a1
   have hstep := reach_drop (age := age) (n := x) hs
   rw [← hap.out] at hstep
   obtain ⟨x1, x2⟩ := s
   simp only at kk0 kk1 hstep
   clear hs a0 a1
   simp only [hA2] at hO hcl ⊢
   by_cases h1 : x2 ≤ age
   ·
    rw [if_pos h1] at hstep
    have f1 : decide (age < x2) = false := by simpa using h1
    have HS := Lib.hid hstep
    clear hstep hap
    go_wp2_with fail
    go_ret
    exact ⟨by simp [HS.out], hO.below⟩
   ·
    rw [if_neg h1] at hstep
    have f1 : decide (age < x2) = true := by simpa using h1
    have HS := Lib.hid hstep
    clear hstep hap
    go_wp2_with fail
    go_roundw
    case rel => exact ⟨k + 1, x1, by go_num, by omega, rfl, HS, hO⟩
    case measure => simp [intOf]; omega
  ·
   obtain rfl : k = v.n2 := by omega
   have hdc : decide ((v.n2 : Int) < (v.n2 : Int)) = false := by simp
   have hap' : reachP m.sects age 0 = x := by
    rw [hap.out, List.drop_of_length_le (by rw [h.e2]; exact Nat.le_refl _)]
    rfl
   have HAP := Lib.hid hap'
   clear hap'
   go_wp2_with fail
   go_ret
   exact ⟨by simp [HAP.out], hO.below⟩
theorem last_is (m : Ma) : lastP m = lastO m.sects := rfl
def endP (m : Ma) : Int := if m.sects.length = 0 then m.gap else wrap64 (lastP m + m.gap)
set_option maxRecDepth 8000 in
set_option maxHeartbeats 4000000 in
theorem rlast_m (m : Ma) (v : MaM) (w : World) (h : MaIs w m v) : Calls Tryz.prog 68 #[.agg (maC m v)] w fun r w' => r = .returned (.tuple #[.int .i64 (lastP m), .int .i64 (endP m)]) ∧ Below w.heap.size w w' := by
 have hO : Own w _ [_] := (Own.nil w).alloc 42 (maC m v) _ rfl
 have hcl := hO.b0.cell
 have hl2 := h.l2
 by_cases h0 : v.n2 = 0
 ·
  have hs : m.sects = [] := List.length_eq_zero_iff.1 (h.e2.trans h0)
  have hla : lastP m = 0 := by unfold lastP; rw [hs]; rfl
  have hen : endP m = m.gap := by unfold endP; rw [hs]; rfl
  rw [hla, hen]
  have f0 : ((v.n2 : Int) == 0) = true := by simpa using h0
  clear hs hla hen h0
  unfold maC at *
  go_enter Tryz.func68, Tryz.ntmps68
  go_wp2_with fail
  clear hcl
  apply wp_region_lexs []
  case hFl => intro u; simp only [List.map, fill, Act.put, List.setIfInBounds_toArray, List.set_cons_zero, List.set_cons_succ, Nat.reduceAdd, Nat.zero_add]; rfl
  case hm => kernel_rfl
  case hB => kernel_rfl
  case hap => kernel_rfl
  repeat (first | (apply LexS.is; · (intro u w' hk hd; simp [Waited, Region.binds, Is] at hd; refine lookedT_want ?_ ?_; (· (first | rfl | (simp [Region.wanted, yielded, hd]; done))); intro K hK; have hk := hk.below (Nat.le_refl _) (by intro k o h; simp at h); have hO2 := hO.grow hk; have hca := hO2.b0.cell; go_wp2_with (fail); (try simp only [hd] at hK); refine hK _ _ ?_ rfl; first | exact Stp.refl _ _ | exact Stp.of_below hb3 _)))
  refine LexS.nil ?_ ?_
  ·
   simp [W2.fit, Apart2]
  intro u w7 hk hd
  simp only [List.nil_append, List.cons_append] at hd
  replace hk := hk.below (Nat.le_refl _) (by intro k o h; simp at h)
  have q2 := hd 2 _ rfl
  have q3 := hd 3 _ rfl
  simp only [Is] at q2 q3
  clear hd
  simp only [q2, q3]
  clear q2 q3
  have hB3 := (hO.grow hk).below
  go_wp2_with fail
  go_ret2
  exact ⟨rfl, hB3⟩
 ·
  obtain ⟨k, hk⟩ : ∃ k, v.n2 = k + 1 := ⟨v.n2 - 1, by omega⟩
  obtain ⟨s, hs⟩ := get_some h.e2 (show k < v.n2 by omega)
  obtain ⟨g, off, hA2, hg, a0, a1⟩ := h.sects.sc hs
  have kk0 := (hO.below.cell (p := ⟨g, off + k * 2, none⟩) hg).trans a0
  have hla : lastP m = s.to_ := by
   rw [last_is, ← lastO_snoc hs, List.take_of_length_le (by rw [h.e2, hk]; exact Nat.le_refl _)]
  have hen : endP m = wrap64 (lastP m + m.gap) := by unfold endP; rw [if_neg (by rw [h.e2]; exact h0)]
  rw [hen, hla]
  have f0 : ((v.n2 : Int) == 0) = false := by simpa using h0
  have f1 : (v.n2 : Int) - 1 = (k : Int) := by omega
  have hkn : k < v.n2 := by omega
  obtain ⟨x1, x2⟩ := s
  simp only at a0 kk0 ⊢
  clear hs hla hen h0 a1 hk
  unfold maC at *
  simp only [hA2] at hO hcl ⊢
  go_enter Tryz.func68, Tryz.ntmps68
  go_wp2_with fail
  clear hcl
  apply wp_region_lexs []
  case hFl => intro u; simp only [List.map, fill, Act.put, List.setIfInBounds_toArray, List.set_cons_zero, List.set_cons_succ, Nat.reduceAdd, Nat.zero_add]; rfl
  case hm => kernel_rfl
  case hB => kernel_rfl
  case hap => kernel_rfl
  repeat (first | (apply LexS.is; · (intro u w' hk hd; simp [Waited, Region.binds, Is] at hd; refine lookedT_want ?_ ?_; (· (first | rfl | (simp [Region.wanted, yielded, hd]; done))); intro K hK; have hk := hk.below (Nat.le_refl _) (by intro k o h; simp at h); have hO2 := hO.grow hk; have hca := hO2.b0.cell; go_wp2_with (fail); (try simp only [hd] at hK); refine hK _ _ ?_ rfl; first | exact Stp.refl _ _ | exact Stp.of_below hb3 _)))
  refine LexS.nil ?_ ?_
  ·
   simp [W2.fit, Apart2]
  intro u w7 hk hd
  simp only [List.nil_append, List.cons_append] at hd
  replace hk := hk.below (Nat.le_refl _) (by intro k o h; simp at h)
  have q2 := hd 5 _ rfl
  have q3 := hd 6 _ rfl
  simp only [Is] at q2 q3
  clear hd
  simp only [q2, q3]
  clear q2 q3
  have hB3 := (hO.grow hk).below
  go_wp2_with fail
  go_ret2
  exact ⟨rfl, hB3⟩
end Go.Proofs.YtkaggddmhjifjaaGreatDoor
