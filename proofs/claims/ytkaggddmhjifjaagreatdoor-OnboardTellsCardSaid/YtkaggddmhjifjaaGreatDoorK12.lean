/- Texts in one: PlanB PlanMay Extent. -/
import Derived.Test.YtkaggddmhjifjaaGreatDoorK11
set_option linter.unusedSimpArgs false
set_option linter.unusedVariables false
namespace Go.Proofs.YtkaggddmhjifjaaGreatDoor
open Go.RowKit Go.Shelf
def leftV (o : Option (Int × Int)) : Value := match o with
 | none => .tuple #[.int .i64 0, .int .i64 0, .bool false]
 | some x => .tuple #[.int .i64 x.1, .int .i64 x.2, .bool true]
theorem head_get {α : Type} {l : List α} {x : α} (h : l[0]? = some x) : l.head? = some x := by
 cases l with
 | nil => simp at h
 | cons y l => simpa using h
set_option maxRecDepth 8000 in
set_option maxHeartbeats 4000000 in
theorem left_m {w : World} {t : Tp} {m : TpM} (h : TpIs w t m) (ma : Ma) (v : MaM) (hm : MaIs w ma v) (hc : checkT t = 0) : Calls Tryz.prog 66 #[.agg m.cells, .agg (maC ma v)] w fun e w' => e = .returned (leftV (leftP t ma)) ∧ Below w.heap.size w w' := by
 have hO : Own w _ [_, _] := Own.start2 w 27 42 m.cells (maC ma v)
 have hcl := hO.b0.cell
 have hcm := hO.b1.cell
 have hbal := fun W (hW : Below w.heap.size w W) => bal_m (h.below hW) ma.ref
 have hle := fun W (hW : Below w.heap.size w W) => len_m (h.below hW) v.A1 v.n1 v.c1 ma.path (hm.path.below hW) hm.e1 hm.l1
 have hr : leftP t ma = match balT t ma.ref with
  | none => none
  | some b => if ma.path.head? ≠ some ⟨b.edge, ma.rev⟩ ∨ lenE t ma.path ≠ 0 then none else (let behind := if ma.rev then edgeT t b.edge - b.at_ else b.at_; some (lenT t ma.path - behind, behind)) := rfl
 generalize leftP t ma = lp at *
 unfold maC at *
 cases hb : balT t ma.ref with
 | none =>
  rw [hb] at hr hbal
  simp only [Option.getD_none, Option.isSome_none] at hbal
  obtain rfl : lp = none := hr
  clear hb hle
  unfold TpM.cells leftV at *
  go_enter Tryz.func66, Tryz.ntmps66
  go_wp2_with (first
   |(go_at_call 50; (with_reducible refine (hbal _ hO.below).mono ?_); rintro e w1 ⟨rfl, hb1⟩; replace hO := hO.grow hb1))
  replace hO := Own.new2 hO 93 #[.int .i64 0, .int .i64 0, .int .i64 0]
  apply wp_region_lex
  case hFl => intro u; simp only [List.map, fill, Act.put, List.setIfInBounds_toArray, List.set_cons_zero, List.set_cons_succ, Nat.reduceAdd, Nat.zero_add]; rfl
  case hm => kernel_rfl
  case hB => kernel_rfl
  case hap => kernel_rfl
  repeat (first | (apply Lex.is; · (intro u w' hk hd; simp [Waited, Region.binds, Is] at hd; refine looked_want ?_ ?_; (· (first | rfl | (simp [Region.wanted, yielded, hd]; done))); intro K hK; have hO2 := hO.grow hk; have hB2 := hO2.below; have hca := hO2.b0.cell; have hcb := hO2.b1.cell; have hcc := hO2.b2.cell; go_wp2_with (fail); (try simp only [hd] at hK); refine hK _ _ ?_ rfl; first | exact Below.refl _ _ | exact hb3)) | (refine Lex.is (c := undef) ?_ ?_; · (intro u w' hk hd; simp [Waited, Region.binds, Is] at hd; refine looked_skip ?_ rfl; first | (simp [Region.wanted, yielded, hd]; done) | (simp [Region.wanted, yielded, hd, undef]; done))))
  apply Lex.nil
  intro u w' hk hd
  simp only [List.nil_append, List.cons_append] at hd
  have hlast := hd 19 _ rfl
  simp only [Is] at hlast
  clear hd
  simp only [hlast]
  have hB3 := (hO.grow hk).below
  go_wp2_with fail
  go_ret3
  exact ⟨rfl, hB3⟩
 | some b =>
  rw [hb] at hr hbal
  simp only [Option.getD_some, Option.isSome_some] at hbal hr
  obtain ⟨hth, hb0, hb1'⟩ := check_bal hc hb
  obtain ⟨i, ev, ge, offe, hi, hin, hie, hA1, hke, hev⟩ := edge_at h hth
  have hmax := check_edges hc ev hev
  rw [hie] at hr hb1'
  have hlb : lenE t ma.path = 0 → 0 ≤ lenT t ma.path ∧ lenT t ma.path ≤ 100000000 := by
   intro h0
   have hok := len_ok h0
   have := lens_nonneg (check_edges hc) ma.path hok.2.2.1
   rw [len_is (check_edges hc) h0]
   omega
  obtain ⟨b1, b2, b3⟩ := b
  simp only at hi hr hb0 hb1' hbal
  subst hi
  clear hb hth hie hev
  simp only [TpM.cells, hA1] at hO hcl hbal hle ⊢
  cases hpath : ma.path with
  | nil =>
   obtain rfl : lp = none := by rw [hr, if_pos (.inl (by rw [hpath]; simp))]
   have hz : v.n1 = 0 := by rw [← hm.e1, hpath]; rfl
   have e1 : ((v.n1 : Int) == 0) = true := by simp [hz]
   clear hr hlb hle hz hpath
   unfold leftV
   go_enter Tryz.func66, Tryz.ntmps66
   go_wp2_with (first
    |(go_at_call 50; (with_reducible refine (hbal _ hO.below).mono ?_); rintro e w1 ⟨rfl, hb1⟩; replace hO := hO.grow hb1))
   replace hO := Own.new2 hO 93 #[.int .i64 b1, .int .i64 i, .int .i64 b3]
   apply wp_region_lex
   case hFl => intro u; simp only [List.map, fill, Act.put, List.setIfInBounds_toArray, List.set_cons_zero, List.set_cons_succ, Nat.reduceAdd, Nat.zero_add]; rfl
   case hm => kernel_rfl
   case hB => kernel_rfl
   case hap => kernel_rfl
   repeat (first | (apply Lex.is; · (intro u w' hk hd; simp [Waited, Region.binds, Is] at hd; refine looked_want ?_ ?_; (· (first | rfl | (simp [Region.wanted, yielded, hd]; done))); intro K hK; have hO2 := hO.grow hk; have hB2 := hO2.below; have hca := hO2.b0.cell; have hcb := hO2.b1.cell; have hcc := hO2.b2.cell; go_wp2_with (fail); (try simp only [hd] at hK); refine hK _ _ ?_ rfl; first | exact Below.refl _ _ | exact hb3)) | (refine Lex.is (c := undef) ?_ ?_; · (intro u w' hk hd; simp [Waited, Region.binds, Is] at hd; refine looked_skip ?_ rfl; first | (simp [Region.wanted, yielded, hd]; done) | (simp [Region.wanted, yielded, hd, undef]; done))))
   apply Lex.nil
   intro u w' hk hd
   simp only [List.nil_append, List.cons_append] at hd
   have hlast := hd 19 _ rfl
   simp only [Is] at hlast
   clear hd
   simp only [hlast]
   have hB3 := (hO.grow hk).below
   go_wp2_with fail
   go_ret3
   exact ⟨rfl, hB3⟩
  | cons s0 rest =>
   have hs : ma.path[0]? = some s0 := by rw [hpath]; rfl
   have hpos : 0 < v.n1 := by rw [← hm.e1, hpath]; simp
   obtain ⟨g, off, hA, hg, a0, a1⟩ := hm.path.st hs
   have ka0 := fun W (hW : Below w.heap.size w W) => (hW.cell (p := ⟨g, off + 0 * 2, none⟩) hg).trans a0
   have ka1 := fun W (hW : Below w.heap.size w W) => (hW.cell (p := ⟨g, off + 0 * 2 + 1, none⟩) hg).trans a1
   have e1 : ((v.n1 : Int) == 0) = false := by simp; omega
   have hneq := fun W => run_neq_st s0 ⟨i, ma.rev⟩ W
   obtain ⟨sm, hsm⟩ : ∃ b, b = decide (s0 = (⟨i, ma.rev⟩ : St)) := ⟨_, rfl⟩
   have hrr : lp = if sm = false ∨ lenE t ma.path ≠ 0 then none else some (lenT t ma.path - (if ma.rev then ev - b3 else b3), if ma.rev then ev - b3 else b3) := by
    rw [hr, head_get hs, hsm]
    simp
   rw [← hsm] at hneq
   have hl1 := hm.l1
   clear hr hsm hs hpath a0 a1
   generalize lenT t ma.path = lt at *
   generalize lenE t ma.path = le at *
   obtain ⟨x1, x2⟩ := s0
   simp only [Nat.zero_mul, Nat.add_zero, hA] at hO hcl hcm hneq hle ka0 ka1 ⊢
   cases sm with
   | false =>
    obtain rfl : lp = none := by rw [hrr, if_pos (.inl rfl)]
    clear hrr hle hlb
    unfold leftV
    go_enter Tryz.func66, Tryz.ntmps66
    go_wp2_with (first
     |(go_at_call 50; (with_reducible refine (hbal _ hO.below).mono ?_); rintro e w1 ⟨rfl, hb1⟩; replace hO := hO.grow hb1))
    replace hO := Own.new2 hO 93 #[.int .i64 b1, .int .i64 i, .int .i64 b3]
    apply wp_region_lex
    case hFl => intro u; simp only [List.map, fill, Act.put, List.setIfInBounds_toArray, List.set_cons_zero, List.set_cons_succ, Nat.reduceAdd, Nat.zero_add]; rfl
    case hm => kernel_rfl
    case hB => kernel_rfl
    case hap => kernel_rfl
    repeat (first | (apply Lex.is; · (intro u w' hk hd; simp [Waited, Region.binds, Is] at hd; refine looked_want ?_ ?_; (· (first | rfl | (simp [Region.wanted, yielded, hd]; done))); intro K hK; have hO2 := hO.grow hk; have hB2 := hO2.below; have hca := hO2.b0.cell; have hcb := hO2.b1.cell; have hcc := hO2.b2.cell; have m1 := ka0 _ hB2; have m2 := ka1 _ hB2; go_wp2_with (fail); (try simp only [hd] at hK); refine hK _ _ ?_ rfl; first | exact Below.refl _ _ | exact hb3)) | (refine Lex.is (c := undef) ?_ ?_; · (intro u w' hk hd; simp [Waited, Region.binds, Is] at hd; refine looked_skip ?_ rfl; first | (simp [Region.wanted, yielded, hd]; done) | (simp [Region.wanted, yielded, hd, undef]; done))))
    apply Lex.nil
    intro u w' hk hd
    simp only [List.nil_append, List.cons_append] at hd
    have hlast := hd 19 _ rfl
    simp only [Is] at hlast
    clear hd
    simp only [hlast]
    have hB3 := (hO.grow hk).below
    go_wp2_with fail
    go_ret3
    exact ⟨rfl, hB3⟩
   | true =>
    by_cases hle0 : le = 0
    ·
     obtain ⟨l0, l1⟩ := hlb hle0
     subst hle0
     rw [if_neg (by simp)] at hrr
     obtain ⟨rv, hrv⟩ : ∃ b, b = ma.rev := ⟨_, rfl⟩
     rw [← hrv] at hrr
     simp only [← hrv] at hO hcm hneq ⊢
     cases rv with
     | false =>
      obtain rfl : lp = some (lt - b3, b3) := by rw [hrr]; simp
      clear hrr hlb hrv
      unfold leftV
      go_enter Tryz.func66, Tryz.ntmps66
      go_wp2_with (first
       |(go_at_call 50; (with_reducible refine (hbal _ hO.below).mono ?_); rintro e w1 ⟨rfl, hb1⟩; replace hO := hO.grow hb1))
      replace hO := Own.new2 hO 93 #[.int .i64 b1, .int .i64 i, .int .i64 b3]
      apply wp_region_lex
      case hFl => intro u; simp only [List.map, fill, Act.put, List.setIfInBounds_toArray, List.set_cons_zero, List.set_cons_succ, Nat.reduceAdd, Nat.zero_add]; rfl
      case hm => kernel_rfl
      case hB => kernel_rfl
      case hap => kernel_rfl
      repeat (first | (apply Lex.is; · (intro u w' hk hd; simp [Waited, Region.binds, Is] at hd; refine looked_want ?_ ?_; (· (first | rfl | (simp [Region.wanted, yielded, hd]; done))); intro K hK; have hO2 := hO.grow hk; have hB2 := hO2.below; have hca := hO2.b0.cell; have hcb := hO2.b1.cell; have hcc := hO2.b2.cell; have m1 := ka0 _ hB2; have m2 := ka1 _ hB2; go_wp2_with (fail); (try simp only [hd] at hK); refine hK _ _ ?_ rfl; first | exact Below.refl _ _ | exact hb3)) | (refine Lex.is (c := undef) ?_ ?_; · (intro u w' hk hd; simp [Waited, Region.binds, Is] at hd; refine looked_skip ?_ rfl; first | (simp [Region.wanted, yielded, hd]; done) | (simp [Region.wanted, yielded, hd, undef]; done))))
      apply Lex.nil
      intro u w' hk hd
      simp only [List.nil_append, List.cons_append] at hd
      have hlast := hd 19 _ rfl
      simp only [Is] at hlast
      clear hd
      simp only [hlast]
      replace hO := hO.grow hk
      have hcl2 := hO.b0.cell
      have hcm2 := hO.b1.cell
      have hcb2 := hO.b2.cell
      go_wp2_with (first
       |(go_at_call 107; (with_reducible refine (hle _ hO.below).mono ?_); rintro e w2 ⟨rfl, hb2⟩; replace hO := hO.grow hb2; have hcl3 := hO.b0.cell; have hcm3 := hO.b1.cell; have hcb3 := hO.b2.cell))
      go_ret3
      exact ⟨rfl, hO.below⟩
     | true =>
      obtain rfl : lp = some (lt - (ev - b3), ev - b3) := by rw [hrr]; simp
      clear hrr hlb hrv
      unfold leftV
      go_enter Tryz.func66, Tryz.ntmps66
      go_wp2_with (first
       |(go_at_call 50; (with_reducible refine (hbal _ hO.below).mono ?_); rintro e w1 ⟨rfl, hb1⟩; replace hO := hO.grow hb1))
      replace hO := Own.new2 hO 93 #[.int .i64 b1, .int .i64 i, .int .i64 b3]
      apply wp_region_lex
      case hFl => intro u; simp only [List.map, fill, Act.put, List.setIfInBounds_toArray, List.set_cons_zero, List.set_cons_succ, Nat.reduceAdd, Nat.zero_add]; rfl
      case hm => kernel_rfl
      case hB => kernel_rfl
      case hap => kernel_rfl
      repeat (first | (apply Lex.is; · (intro u w' hk hd; simp [Waited, Region.binds, Is] at hd; refine looked_want ?_ ?_; (· (first | rfl | (simp [Region.wanted, yielded, hd]; done))); intro K hK; have hO2 := hO.grow hk; have hB2 := hO2.below; have hca := hO2.b0.cell; have hcb := hO2.b1.cell; have hcc := hO2.b2.cell; have m1 := ka0 _ hB2; have m2 := ka1 _ hB2; go_wp2_with (fail); (try simp only [hd] at hK); refine hK _ _ ?_ rfl; first | exact Below.refl _ _ | exact hb3)) | (refine Lex.is (c := undef) ?_ ?_; · (intro u w' hk hd; simp [Waited, Region.binds, Is] at hd; refine looked_skip ?_ rfl; first | (simp [Region.wanted, yielded, hd]; done) | (simp [Region.wanted, yielded, hd, undef]; done))))
      apply Lex.nil
      intro u w' hk hd
      simp only [List.nil_append, List.cons_append] at hd
      have hlast := hd 19 _ rfl
      simp only [Is] at hlast
      clear hd
      simp only [hlast]
      replace hO := hO.grow hk
      clear hk hlast
      have hcl2 := hO.b0.cell
      have hcm2 := hO.b1.cell
      have hcb2 := hO.b2.cell
      go_wp2_with (first
       |(go_at_call 107; (with_reducible refine (hle _ hO.below).mono ?_); rintro e w2 ⟨rfl, hb2⟩; replace hO := hO.grow hb2; have hcl3 := hO.b0.cell; have hcm3 := hO.b1.cell; have hcb3 := hO.b2.cell))
      apply wp_region_lex
      case hFl => intro u; simp only [List.map, fill, Act.put, List.setIfInBounds_toArray, List.set_cons_zero, List.set_cons_succ, Nat.reduceAdd, Nat.zero_add]; rfl
      case hm => kernel_rfl
      case hB => kernel_rfl
      case hap => kernel_rfl
      repeat (first | (apply Lex.is; · (intro u w' hk hd; simp [Waited, Region.binds, Is] at hd; refine looked_want ?_ ?_; (· (first | rfl | (simp [Region.wanted, yielded, hd]; done))); intro K hK; have hO2 := hO.grow hk; have hB2 := hO2.below; have hca := hO2.b0.cell; have hcb := hO2.b1.cell; have hcc := hO2.b2.cell; have m1 := hke _ hB2; go_wp2_with (fail); (try simp only [hd] at hK); refine hK _ _ ?_ rfl; first | exact Below.refl _ _ | exact hb3)) | (refine Lex.is (c := undef) ?_ ?_; · (intro u w' hk hd; simp [Waited, Region.binds, Is] at hd; refine looked_skip ?_ rfl; first | (simp [Region.wanted, yielded, hd]; done) | (simp [Region.wanted, yielded, hd, undef]; done))))
      apply Lex.nil
      intro u w' hk hd
      simp only [List.nil_append, List.cons_append] at hd
      have hlast := hd 9 _ rfl
      simp only [Is] at hlast
      clear hd
      simp only [hlast]
      have hB3 := (hO.grow hk).below
      go_wp2_with fail
      go_ret3
      exact ⟨rfl, hB3⟩
    ·
     obtain rfl : lp = none := by rw [hrr, if_pos (.inr hle0)]
     have hne : (le != 0) = true := by simpa using hle0
     clear hrr hlb hle0
     unfold leftV
     go_enter Tryz.func66, Tryz.ntmps66
     go_wp2_with (first
      |(go_at_call 50; (with_reducible refine (hbal _ hO.below).mono ?_); rintro e w1 ⟨rfl, hb1⟩; replace hO := hO.grow hb1))
     replace hO := Own.new2 hO 93 #[.int .i64 b1, .int .i64 i, .int .i64 b3]
     apply wp_region_lex
     case hFl => intro u; simp only [List.map, fill, Act.put, List.setIfInBounds_toArray, List.set_cons_zero, List.set_cons_succ, Nat.reduceAdd, Nat.zero_add]; rfl
     case hm => kernel_rfl
     case hB => kernel_rfl
     case hap => kernel_rfl
     repeat (first | (apply Lex.is; · (intro u w' hk hd; simp [Waited, Region.binds, Is] at hd; refine looked_want ?_ ?_; (· (first | rfl | (simp [Region.wanted, yielded, hd]; done))); intro K hK; have hO2 := hO.grow hk; have hB2 := hO2.below; have hca := hO2.b0.cell; have hcb := hO2.b1.cell; have hcc := hO2.b2.cell; have m1 := ka0 _ hB2; have m2 := ka1 _ hB2; go_wp2_with (fail); (try simp only [hd] at hK); refine hK _ _ ?_ rfl; first | exact Below.refl _ _ | exact hb3)) | (refine Lex.is (c := undef) ?_ ?_; · (intro u w' hk hd; simp [Waited, Region.binds, Is] at hd; refine looked_skip ?_ rfl; first | (simp [Region.wanted, yielded, hd]; done) | (simp [Region.wanted, yielded, hd, undef]; done))))
     apply Lex.nil
     intro u w' hk hd
     simp only [List.nil_append, List.cons_append] at hd
     have hlast := hd 19 _ rfl
     simp only [Is] at hlast
     clear hd
     simp only [hlast]
     replace hO := hO.grow hk
     have hcl2 := hO.b0.cell
     have hcm2 := hO.b1.cell
     go_wp2_with (first
      |(go_at_call 107; (with_reducible refine (hle _ hO.below).mono ?_); rintro e w2 ⟨rfl, hb2⟩; replace hO := hO.grow hb2))
     go_ret3
     exact ⟨rfl, hO.below⟩
end Go.Proofs.YtkaggddmhjifjaaGreatDoor
set_option linter.unusedSimpArgs false
set_option linter.unusedVariables false
namespace Go.Proofs.YtkaggddmhjifjaaGreatDoor
open Go.RowKit Go.Shelf
theorem may_parts {t : Tp} {m : Ma} (h : mayP t m = true) : checkT t = 0 ∧ m.path.length ≤ 24 ∧ twiceP [] m.path = false ∧ 1 ≤ m.sects.length ∧ m.sects.length ≤ 8 ∧ 0 ≤ m.gap ∧ m.gap ≤ 1099511627776 ∧ sectsP 0 m.sects = true ∧ ∃ x, leftP t m = some x ∧ lastP m + m.gap ≤ x.1 := by
 unfold mayP at h
 simp only [Bool.and_eq_true, decide_eq_true_eq, Bool.not_eq_true'] at h
 obtain ⟨⟨⟨⟨⟨⟨⟨⟨h1, h2⟩, h3⟩, h4⟩, h5⟩, h6⟩, h7⟩, h8⟩, h9⟩ := h
 refine ⟨h1, h2, h3, h4, h5, h6, h7, h8, ?_⟩
 cases hx : leftP t m with
 | none => rw [hx] at h9; cases h9
 | some x => rw [hx] at h9; exact ⟨x, rfl, by simpa using h9⟩
theorem may_of {t : Tp} {m : Ma} {x : Int × Int} (h1 : checkT t = 0) (h2 : m.path.length ≤ 24) (h3 : twiceP [] m.path = false) (h4 : 1 ≤ m.sects.length) (h5 : m.sects.length ≤ 8) (h6 : 0 ≤ m.gap) (h7 : m.gap ≤ 1099511627776) (h8 : sectsP 0 m.sects = true) (hx : leftP t m = some x) (h9 : lastP m + m.gap ≤ x.1) : mayP t m = true := by
 unfold mayP
 rw [hx]
 simp [h1, h2, h3, h4, h5, h6, h7, h8, h9]
theorem sects_drop {l : List Sc} {k : Nat} {s : Sc} {x : Int} (h : l[k]? = some s) : sectsP x (l.drop k) = (decide (x < s.to_) && decide (s.to_ ≤ 1099511627776) && decide (1 ≤ s.timer) && decide (s.timer ≤ 1000) && sectsP s.to_ (l.drop (k + 1))) := by
 rw [drop_cons h, sectsP]
def lastO (l : List Sc) : Int := match l.getLast? with
 | none => 0
 | some s => s.to_
theorem lastO_snoc {l : List Sc} {k : Nat} {s : Sc} (h : l[k]? = some s) : lastO (l.take (k + 1)) = s.to_ := by
 unfold lastO
 rw [take_snoc' h]
 simp
set_option maxRecDepth 8000 in
set_option maxHeartbeats 4000000 in
theorem mayP_m {w : World} {t : Tp} {m : TpM} (h : TpIs w t m) (ma : Ma) (v : MaM) (hm : MaIs w ma v) : Calls Tryz.prog 51 #[.agg m.cells, .agg (maC ma v)] w fun e w' => e = .returned (.bool (mayP t ma)) ∧ Below w.heap.size w w' := by
 have hO : Own w _ [_, _] := Own.start2 w 27 42 m.cells (maC ma v)
 have hcl := hO.b0.cell
 have hcm := hO.b1.cell
 have hck := fun W (hW : Below w.heap.size w W) => check_m (h.below hW)
 have htw := fun W (hW : Below w.heap.size w W) => twice_k v.A1 v.n1 v.c1 ma.path W (hm.path.below hW) hm.e1 hm.l1 hm.q1
 have hlf := fun W (hW : Below w.heap.size w W) (hc : checkT t = 0) => left_m (h.below hW) ma v (hm.below hW) hc
 have HP := Lib.hid (@may_parts t ma)
 have HQ := Lib.hid (fun x => @may_of t ma x)
 have he1 := hm.e1
 have he2 := hm.e2
 rw [he1, he2] at HP HQ
 have HE := Lib.hid he2
 clear he1 he2
 generalize mayP t ma = mp at *
 unfold maC TpM.cells at *
 by_cases h1 : checkT t = 0
 ·
  rw [h1] at hck
  replace hlf := fun W (hW : Below w.heap.size w W) => hlf W hW h1
  by_cases h2 : v.n1 ≤ 24
  ·
   have f2 : decide (24 < (v.n1 : Int)) = false := by simp; omega
   cases h3 : twiceP [] ma.path with
   | true =>
    rw [h3] at htw
    obtain rfl : mp = false := Bool.eq_false_iff.2 fun hh => by have := (HP.out hh).2.2.1; rw [h3] at this; cases this
    clear h3
    go_enter Tryz.func51, Tryz.ntmps51
    go_wp2_with (first
     |(go_at_call 70; (with_reducible refine (hck _ hO.below).mono ?_); rintro e w1 ⟨rfl, hb1⟩; replace hO := hO.grow hb1; have hcm1 := hO.b1.cell)
     |(go_at_call 78; (with_reducible refine (htw _ hO.below).mono ?_); rintro e w2 ⟨rfl, hb2⟩; replace hO := hO.grow hb2; have hcm2 := hO.b1.cell))
    go_ret
    exact ⟨rfl, hO.below⟩
   | false =>
    rw [h3] at htw
    by_cases h4 : 1 ≤ v.n2
    ·
     have f4 : decide ((v.n2 : Int) < 1) = false := by simp; omega
     by_cases h5 : v.n2 ≤ 8
     ·
      have f5 : decide (8 < (v.n2 : Int)) = false := by simp; omega
      by_cases h6 : 0 ≤ ma.gap
      ·
       have f6 : decide (ma.gap < 0) = false := by simp; omega
       by_cases h7 : ma.gap ≤ 1099511627776
       ·
        have f7 : decide (1099511627776 < ma.gap) = false := by simp; omega
        have H1 := Lib.hid h1
        have H3 := Lib.hid h3
        clear h1 h3
        go_enter Tryz.func51, Tryz.ntmps51
        go_wp2_with (first
         |(go_at_call 70; (with_reducible refine (hck _ hO.below).mono ?_); rintro e w1 ⟨rfl, hb1⟩; replace hO := hO.grow hb1; have hcm1 := hO.b1.cell)
         |(go_at_call 78; (with_reducible refine (htw _ hO.below).mono ?_); rintro e w2 ⟨rfl, hb2⟩; replace hO := hO.grow hb2; have hcm2 := hO.b1.cell))
        clear hcl hcm hcm1 hcm2 hck htw f2 f4 f5 f6 f7
        go_loopw [5, 50] (fun a i wr => ∃ (k : Nat) (x : Int), i = .int .i64 k ∧ k ≤ v.n2 ∧ a = .int .i64 x ∧ 0 ≤ x ∧ x ≤ 1099511627776 ∧ Hid (sectsP 0 ma.sects = sectsP x (ma.sects.drop k) ∧ lastO (ma.sects.take k) = x) ∧ Own w wr [(w.heap.size, 27, #[.slice m.A1 m.n1 m.c1, .slice m.A2 m.n2 m.c2, .slice m.A3 m.n3 m.c3, .slice m.A4 m.n4 m.c4]), (w.heap.size + 1, 42, #[.int .i64 ma.ref, .bool ma.rev, .slice v.A1 v.n1 v.c1, .slice v.A2 v.n2 v.c2, .int .i64 ma.gap])]) (fun _ i _ => v.n2 - (intOf i).toNat)
        case atStart => exact ⟨0, 0, rfl, Nat.zero_le _, rfl, by omega, by omega, Lib.hid ⟨by simp, by simp [lastO]⟩, hO⟩
        case round =>
         clear hO
         obtain ⟨k, x, rfl, hk, rfl, hx0, hx1, hap, hO⟩ := hrel
         have hcl := hO.b0.cell
         have hcm := hO.b1.cell
         by_cases hlt : k < v.n2
         ·
          obtain ⟨s, hs⟩ := get_some HE.out hlt
          obtain ⟨g, off, hA2, hg, a0, a1⟩ := hm.sects.sc hs
          have kk0 := (hO.below.cell (p := ⟨g, off + k * 2, none⟩) hg).trans a0
          have kk1 := (hO.below.cell (p := ⟨g, off + k * 2 + 1, none⟩) hg).trans a1
          have hstep := sects_drop (x := x) hs
          rw [← hap.out.1] at hstep
          have hlast := lastO_snoc hs
          obtain ⟨x1, x2⟩ := s
          simp only [hA2] at kk0 kk1 hstep hlast hO hcm ⊢
          have hO1 := Own.new2 hO 122 #[.int .i64 x1, .int .i64 x2]
          have hcs := hO1.b2.cell
          clear hs a0 a1
          have HS := Lib.hid hstep
          have HL := Lib.hid hlast
          clear hstep hlast
          by_cases g1 : x1 ≤ x
          ·
           have f1 : decide (x1 ≤ x) = true := by simpa using g1
           obtain rfl : mp = false := Bool.eq_false_iff.2 fun hh => by have h8 := (HP.out hh).2.2.2.2.2.2.2.1; rw [HS.out] at h8; simp at h8; omega
           go_wp2_with fail
           go_ret
           exact ⟨rfl, hO1.below⟩
          have f1 : decide (x1 ≤ x) = false := by simpa using g1
          by_cases g2 : 1099511627776 < x1
          ·
           have f2 : decide (1099511627776 < x1) = true := by simpa using g2
           obtain rfl : mp = false := Bool.eq_false_iff.2 fun hh => by have h8 := (HP.out hh).2.2.2.2.2.2.2.1; rw [HS.out] at h8; simp at h8; omega
           go_wp2_with fail
           go_ret
           exact ⟨rfl, hO1.below⟩
          have f2 : decide (1099511627776 < x1) = false := by simpa using g2
          by_cases g3 : x2 < 1
          ·
           have f3 : decide (x2 < 1) = true := by simpa using g3
           obtain rfl : mp = false := Bool.eq_false_iff.2 fun hh => by have h8 := (HP.out hh).2.2.2.2.2.2.2.1; rw [HS.out] at h8; simp at h8; omega
           go_wp2_with fail
           go_ret
           exact ⟨rfl, hO1.below⟩
          have f3 : decide (x2 < 1) = false := by simpa using g3
          by_cases g4 : 1000 < x2
          ·
           have f4 : decide (1000 < x2) = true := by simpa using g4
           obtain rfl : mp = false := Bool.eq_false_iff.2 fun hh => by have h8 := (HP.out hh).2.2.2.2.2.2.2.1; rw [HS.out] at h8; simp at h8; omega
           go_wp2_with fail
           go_ret
           exact ⟨rfl, hO1.below⟩
          have f4 : decide (1000 < x2) = false := by simpa using g4
          have HS2 := Lib.hid (show sectsP 0 ma.sects = sectsP x1 (ma.sects.drop (k + 1)) ∧ lastO (ma.sects.take (k + 1)) = x1 from ⟨by rw [HS.out]; simp; omega, HL.out⟩)
          clear HS HL hap
          go_wp2_with fail
          go_roundw
          case rel => exact ⟨k + 1, x1, by go_num, by omega, rfl, by omega, by omega, HS2, ⟨hO1.below, fun x hx => hO1.blk x (by simp at hx; rcases hx with rfl | rfl <;> simp), by simp⟩⟩
          case measure => simp [intOf]; omega
         ·
          obtain rfl : k = v.n2 := by omega
          have hsec : sectsP 0 ma.sects = true ∧ lastP ma = x := by
           obtain ⟨p1, p2⟩ := hap.out
           rw [p1, List.drop_of_length_le (by rw [HE.out]; exact Nat.le_refl _)]
           rw [List.take_of_length_le (by rw [HE.out]; exact Nat.le_refl _)] at p2
           exact ⟨rfl, p2⟩
          have HX := Lib.hid hsec
          clear hsec hap
          cases hlp : leftP t ma with
          | none =>
           rw [hlp] at hlf
           obtain rfl : mp = false := Bool.eq_false_iff.2 fun hh => by
            obtain ⟨_, _, _, _, _, _, _, _, z, hz, _⟩ := HP.out hh
            rw [hlp] at hz
            cases hz
           clear hlp
           unfold leftV at hlf
           go_wp2_with (first
            |(go_at_call 66; (with_reducible refine (hlf _ hO.below).mono ?_); rintro e w1 ⟨rfl, hb1⟩; replace hO := hO.grow hb1; have hcm1 := hO.b1.cell))
           go_ret
           exact ⟨rfl, hO.below⟩
          | some z =>
           rw [hlp] at hlf
           have hmp : mp = decide (x + ma.gap ≤ z.1) := by
            by_cases hz : x + ma.gap ≤ z.1
            ·
             rw [decide_eq_true hz]
             exact HQ.out z H1.out (by omega) H3.out (by omega) (by omega) (by omega) (by omega) HX.out.1 hlp (by rw [HX.out.2]; exact hz)
            ·
             rw [decide_eq_false hz]
             refine Bool.eq_false_iff.2 fun hh => ?_
             obtain ⟨_, _, _, _, _, _, _, _, z', hz', hz2⟩ := HP.out hh
             rw [hlp] at hz'
             cases hz'
             rw [HX.out.2] at hz2
             exact hz hz2
           have HM := Lib.hid hmp
           obtain ⟨z1, z2⟩ := z
           clear hmp hlp
           unfold leftV at hlf
           go_wp2_with (first
            |(go_at_call 66; (with_reducible refine (hlf _ hO.below).mono ?_); rintro e w1 ⟨rfl, hb1⟩; replace hO := hO.grow hb1; have hcm1 := hO.b1.cell))
           go_ret
           exact ⟨by simp [HM.out], hO.below⟩
       ·
        have f7 : decide (1099511627776 < ma.gap) = true := by simp; omega
        obtain rfl : mp = false := Bool.eq_false_iff.2 fun hh => by have := HP.out hh; omega
        go_enter Tryz.func51, Tryz.ntmps51
        go_wp2_with (first
         |(go_at_call 70; (with_reducible refine (hck _ hO.below).mono ?_); rintro e w1 ⟨rfl, hb1⟩; replace hO := hO.grow hb1; have hcm1 := hO.b1.cell)
         |(go_at_call 78; (with_reducible refine (htw _ hO.below).mono ?_); rintro e w2 ⟨rfl, hb2⟩; replace hO := hO.grow hb2; have hcm2 := hO.b1.cell))
        go_ret
        exact ⟨rfl, hO.below⟩
      ·
       have f6 : decide (ma.gap < 0) = true := by simp; omega
       obtain rfl : mp = false := Bool.eq_false_iff.2 fun hh => by have := HP.out hh; omega
       go_enter Tryz.func51, Tryz.ntmps51
       go_wp2_with (first
        |(go_at_call 70; (with_reducible refine (hck _ hO.below).mono ?_); rintro e w1 ⟨rfl, hb1⟩; replace hO := hO.grow hb1; have hcm1 := hO.b1.cell)
        |(go_at_call 78; (with_reducible refine (htw _ hO.below).mono ?_); rintro e w2 ⟨rfl, hb2⟩; replace hO := hO.grow hb2; have hcm2 := hO.b1.cell))
       go_ret
       exact ⟨rfl, hO.below⟩
     ·
      have f5 : decide (8 < (v.n2 : Int)) = true := by simp; omega
      obtain rfl : mp = false := Bool.eq_false_iff.2 fun hh => by have := HP.out hh; omega
      go_enter Tryz.func51, Tryz.ntmps51
      go_wp2_with (first
       |(go_at_call 70; (with_reducible refine (hck _ hO.below).mono ?_); rintro e w1 ⟨rfl, hb1⟩; replace hO := hO.grow hb1; have hcm1 := hO.b1.cell)
       |(go_at_call 78; (with_reducible refine (htw _ hO.below).mono ?_); rintro e w2 ⟨rfl, hb2⟩; replace hO := hO.grow hb2; have hcm2 := hO.b1.cell))
      go_ret
      exact ⟨rfl, hO.below⟩
    ·
     have f4 : decide ((v.n2 : Int) < 1) = true := by simp; omega
     obtain rfl : mp = false := Bool.eq_false_iff.2 fun hh => by have := HP.out hh; omega
     go_enter Tryz.func51, Tryz.ntmps51
     go_wp2_with (first
      |(go_at_call 70; (with_reducible refine (hck _ hO.below).mono ?_); rintro e w1 ⟨rfl, hb1⟩; replace hO := hO.grow hb1; have hcm1 := hO.b1.cell)
      |(go_at_call 78; (with_reducible refine (htw _ hO.below).mono ?_); rintro e w2 ⟨rfl, hb2⟩; replace hO := hO.grow hb2; have hcm2 := hO.b1.cell))
     go_ret
     exact ⟨rfl, hO.below⟩
  ·
   have f2 : decide (24 < (v.n1 : Int)) = true := by simp; omega
   obtain rfl : mp = false := Bool.eq_false_iff.2 fun hh => by have := HP.out hh; omega
   go_enter Tryz.func51, Tryz.ntmps51
   go_wp2_with (first
    |(go_at_call 70; (with_reducible refine (hck _ hO.below).mono ?_); rintro e w1 ⟨rfl, hb1⟩; replace hO := hO.grow hb1; have hcm1 := hO.b1.cell)
    |(go_at_call 78; (with_reducible refine (htw _ hO.below).mono ?_); rintro e w2 ⟨rfl, hb2⟩; replace hO := hO.grow hb2; have hcm2 := hO.b1.cell))
   go_ret
   exact ⟨rfl, hO.below⟩
 ·
  obtain rfl : mp = false := Bool.eq_false_iff.2 fun hh => h1 (HP.out hh).1
  generalize checkT t = ck at *
  have hne : (ck != 0) = true := by simpa using h1
  clear hlf HP HQ h1
  go_enter Tryz.func51, Tryz.ntmps51
  go_wp2_with (first
   |(go_at_call 70; (with_reducible refine (hck _ hO.below).mono ?_); rintro e w1 ⟨rfl, hb1⟩; replace hO := hO.grow hb1; have hcm1 := hO.b1.cell)
   |(go_at_call 78; (with_reducible refine (htw _ hO.below).mono ?_); rintro e w2 ⟨rfl, hb2⟩; replace hO := hO.grow hb2; have hcm2 := hO.b1.cell))
  go_ret
  exact ⟨rfl, hO.below⟩
open Go.RowKit Go.Shelf
theorem extent_is {t : Tp} {m : Ma} (h : mayP t m = true) {fr to_ : Int} (h0 : 0 ≤ fr) (h1 : fr ≤ to_) (h2 : to_ ≤ lastP m + m.gap) : ∃ x, leftP t m = some x ∧ checkT t = 0 ∧ lenE t m.path = 0 ∧ 0 ≤ x.2 ∧ x.2 + to_ ≤ lenT t m.path ∧ lenT t m.path ≤ 100000000 ∧ extentT t m fr to_ = normT (piecesT t (x.2 + fr) (x.2 + to_) m.path 0) := by
 obtain ⟨a1, a2, a3, x, a4, a5⟩ := may_ok h
 obtain ⟨b1, b2, b3⟩ := left_ok a1 a4
 have hl := check_edges a1
 have hlb : lenT t m.path ≤ 100000000 := by
  have hok := len_ok b1
  have := lens_nonneg hl m.path hok.2.2.1
  rw [len_is hl b1]
  omega
 refine ⟨x, a4, a1, b1, b3, by omega, hlb, ?_⟩
 unfold extentT
 rw [if_neg (by rw [h]; simp; omega), a4]
 simp only
 have he : spanE t m.path (x.2 + fr) (x.2 + to_) = 0 := by
  unfold spanE
  rw [if_neg (by omega), if_neg]
  rintro (e | e | e | e)
  ·
   obtain ⟨n, hn, hb⟩ := List.any_eq_true.1 e
   have := hl n hn
   simp at hb
   omega
  ·
   omega
  ·
   omega
  ·
   omega
 unfold spanT
 rw [if_pos he]
theorem last_at {m : Ma} (h : m.sects ≠ []) : ∃ s, m.sects[m.sects.length - 1]? = some s ∧ lastP m = s.to_ := by
 unfold lastP
 rw [List.getLast?_eq_getElem?]
 have : 0 < m.sects.length := List.length_pos_iff.2 h
 have hi : m.sects.length - 1 < m.sects.length := by omega
 exact ⟨_, List.getElem?_eq_getElem hi, by rw [List.getElem?_eq_getElem hi]⟩
set_option maxRecDepth 8000 in
set_option maxHeartbeats 8000000 in
theorem extent_k {w : World} {t : Tp} {m : TpM} (h : TpIs w t m) (ma : Ma) (v : MaM) (hm : MaIs w ma v) (hmay : mayP t ma = true) (fr to_ : Int) (h0 : 0 ≤ fr) (h1 : fr ≤ to_) (h2 : to_ ≤ lastP ma + ma.gap) : Calls Tryz.prog 26 #[.agg m.cells, .agg (maC ma v), .int .i64 fr, .int .i64 to_] w fun e w' => ∃ A' c', e = .returned (.tuple #[.slice A' (extentT t ma fr to_).length c', .int .i64 0]) ∧ RowsAt encSp w' A' (extentT t ma fr to_) ∧ Below w.heap.size w w' := by
 have hO : Own w _ [_, _] := Own.start2 w 27 42 m.cells (maC ma v)
 have hcl := hO.b0.cell
 have hcm := hO.b1.cell
 obtain ⟨x, g1, g2, g3, g4, g5, g6, g7⟩ := extent_is hmay h0 h1 h2
 have hmy := fun W (hW : Below w.heap.size w W) => mayP_m (h.below hW) ma v (hm.below hW)
 have hlf := fun W (hW : Below w.heap.size w W) => left_m (h.below hW) ma v (hm.below hW) g2
 have hov := fun W (hW : Below w.heap.size w W) => spanover_k (h.below hW) v.A1 v.n1 v.c1 ma.path (x.2 + fr) (x.2 + to_) (hm.path.below hW) hm.e1 hm.l1 (check_edges g2) g3 (by omega) (by omega) g5
 obtain ⟨s, hs, hls⟩ := last_at (may_sects hmay).2
 have hne := List.length_pos_iff.2 (may_sects hmay).2
 have hgap := (may_ok hmay).2.2.1
 have hx1 : lastP ma + ma.gap ≤ 100000000 := by
  obtain ⟨a1, a2, a3, y, a4, a5⟩ := may_ok hmay
  obtain ⟨b1, b2, b3⟩ := left_ok a1 a4
  omega
 have hrise := sects_rise ma.sects 0 (may_sects hmay).1 s (List.mem_of_getElem? hs)
 rw [hm.e2] at hs hne
 obtain ⟨g, off, hA2, hg, a0, a1⟩ := hm.sects.sc hs
 rw [hmay] at hmy
 rw [g1] at hlf
 rw [← g7] at hov
 have ka0 := fun W (hW : Below w.heap.size w W) => (hW.cell (p := ⟨g, off + (v.n2 - 1) * 2, none⟩) hg).trans a0
 rw [hls] at h2 hx1
 generalize extentT t ma fr to_ = ex at *
 obtain ⟨p, hp⟩ : ∃ p, v.n2 = p + 1 := ⟨v.n2 - 1, by omega⟩
 have hpi : ((v.n2 : Int) - 1) = (p : Int) := by omega
 have hpn : v.n2 - 1 = p := by omega
 rw [hpn] at ka0
 have hpl : p < v.n2 := by omega
 obtain ⟨s1, s2⟩ := s
 simp only at h2 hx1 hrise ka0
 obtain ⟨x1, x2⟩ := x
 simp only at g4 g5 hov
 have f1 : decide (fr < 0) = false := by simpa using h0
 have f2 : decide (to_ < fr) = false := by simpa using h1
 have f3 : decide (s1 + ma.gap < to_) = false := by simpa using h2
 have hq2 := hm.q2
 have hl2 := hm.l2
 unfold leftV at hlf
 unfold maC at *
 simp only [hA2] at hO hcm hmy hlf hov ⊢
 unfold TpM.cells at *
 clear g1 g7 hs hls hmay hne hp a0 a1 hpn
 go_enter Tryz.func26, Tryz.ntmps26
 go_wp2_with fail
 apply wp_region_lex
 case hFl => intro u; simp only [List.map, fill, Act.put, List.setIfInBounds_toArray, List.set_cons_zero, List.set_cons_succ, Nat.reduceAdd, Nat.zero_add]; with_reducible rfl
 case hm => kernel_rfl
 case hB => kernel_rfl
 case hap => kernel_rfl
 repeat (first | (apply Lex.is; · (intro u w' hk hd; simp [Waited, Region.binds, Is] at hd; refine looked_want ?_ ?_; (· (first | rfl | (simp [Region.wanted, yielded, hd]; done))); intro K hK; have hO2 := hO.grow hk; have hB2 := hO2.below; have hcl2 := hO2.b0.cell; have hcm2 := hO2.b1.cell; have m1 := ka0 _ hB2; go_wp2_with ((first | (go_at_call 51; (with_reducible refine (hmy _ hB2).mono ?_); rintro e w3 ⟨rfl, hb3⟩))); (try simp only [hd] at hK); refine hK _ _ ?_ rfl; first | exact Below.refl _ _ | exact hb3)) | (refine Lex.is (c := undef) ?_ ?_; · (intro u w' hk hd; simp [Waited, Region.binds, Is] at hd; exact looked_skip (by simp [Region.wanted, yielded, hd]) rfl)))
 apply Lex.nil
 intro u w' hk hd
 simp only [List.nil_append, List.cons_append] at hd
 have hlast := hd 28 _ rfl
 simp only [Is] at hlast
 clear hd
 simp only [hlast]
 replace hO := hO.grow hk
 have hcl3 := hO.b0.cell
 have hcm3 := hO.b1.cell
 clear hk hlast hcl hcm
 go_wp2_with (first
  |(go_at_call 66; (with_reducible refine (hlf _ hO.below).mono ?_); rintro e w4 ⟨rfl, hb4⟩; replace hO := hO.grow hb4; have hcl4 := hO.b0.cell; have hcm4 := hO.b1.cell)
  |(go_at_call 67; (with_reducible refine (hov _ hO.below).mono ?_); rintro e w5 ⟨A9, c9, rfl, hr5, hb5⟩; replace hO := hO.grow hb5))
 go_ret2
 exact ⟨A9, c9, rfl, hr5, hO.below⟩
end Go.Proofs.YtkaggddmhjifjaaGreatDoor
