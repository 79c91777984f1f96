/- Texts in one: PlanA PlanB. -/
import Derived.Test.YtpjdcpicfkdioaaGreatDoorK14
import Derived.Test.YtpjdcpicfkdioaaGreatDoorK07
import Derived.Test.YtpjdcpicfkdioaaGreatDoorK16
/- plan: over, twice, left, Reach; authorities in memory. -/
set_option linter.unusedSimpArgs false
set_option linter.unusedVariables false
namespace Go.Proofs.YtpjdcpicfkdioaaGreatDoor
open Go.RowKit Go.Shelf

theorem run_eql_st (a b : St) (W : World) : (binOp .eql 98 (stV a) (stV b)).run Tryz.prog W = .ok (.bool (decide (a = b))) W := by
  have u3 := Tryz.underlying3
  have a3 := Tryz.isAgg3
  have z3 := Tryz.sizeOf3
  have u4 := Tryz.underlying4
  have a4 := Tryz.isAgg4
  have z4 := Tryz.sizeOf4
  have hSE : Tryz.prog.underlying 98 = some (.struct (Tryz.prog.fieldsOf 98)) := by kernel_rfl
  have hpE : Tryz.prog.stoodInHeld 98 = false := by kernel_rfl
  rw [run_eql_struct, show (10000 : Nat) = 9999 + 1 from rfl]
  have hE := run_equalIn_agg (P := Tryz.prog) W 9999 98 #[.int .i64 a.edge, .bool a.rev] #[.int .i64 b.edge, .bool b.rev] hSE hpE
  simp only [Program.fieldsOf, Tryz.underlying98] at hE
  rw [hE]
  go_simp
  obtain ⟨x1, x2⟩ := a
  obtain ⟨y1, y2⟩ := b
  by_cases h1 : x1 = y1 <;> by_cases h2 : x2 = y2 <;> simp [h1, h2]
theorem run_neq_st (a b : St) (W : World) : (binOp .neq 98 (stV a) (stV b)).run Tryz.prog W = .ok (.bool (!decide (a = b))) W := by
  have h := run_eql_st a b W
  simp only [binOp, Op.equal] at h ⊢
  simp at h ⊢
  cases hr : (Op.equalIn Op.maxDepth 98 (stV a) (stV b)).run Tryz.prog W with
  | ok v W' =>
    rw [hr] at h
    simp at h
    obtain ⟨h1, h2⟩ := h
    subst h2
    simp [h1]
  | halt e W' =>
    rw [hr] at h
    simp at h
/-- Where an authority's way and sections lie. -/
structure MaM where
  A1 : Option Addr
  n1 : Nat
  c1 : Nat
  A2 : Option Addr
  n2 : Nat
  c2 : Nat
def maC (m : Ma) (v : MaM) : Array Value := #[.int .i64 m.ref, .bool m.rev, .slice v.A1 v.n1 v.c1, .slice v.A2 v.n2 v.c2, .int .i64 m.gap]
structure MaIs (w : World) (m : Ma) (v : MaM) : Prop where
  path : RowsAt encSt w v.A1 m.path
  sects : RowsAt encSc w v.A2 m.sects
  e1 : m.path.length = v.n1
  e2 : m.sects.length = v.n2
  l1 : v.n1 ≤ 100
  l2 : v.n2 ≤ 100
  q1 : v.n1 ≤ v.c1
  q2 : v.n2 ≤ v.c2
theorem MaIs.below {w w' : World} {m : Ma} {v : MaM} (h : MaIs w m v) (hb : Below w.heap.size w w') : MaIs w' m v := { h with path := h.path.below hb, sects := h.sects.below hb }
theorem enter_over1 : ∀ args w, (callFunc 183 args).run Tryz.prog w = .ok (.enter 183 args) w := enters_of Tryz.func183 (by kernel_rfl) (by rfl)
theorem over1_k (x : St) (e : Int) (g : Nat) (w : World) (hA : w.cell? ⟨g, 0, none⟩ = some (.int .i64 e)) (hb : g < w.heap.size) : Calls Tryz.prog 183 #[.agg (encSt.enc x).toArray, .pointer (some ⟨g, 0, none⟩)] w fun r w' => r = .returned (.bool (decide (x.edge = e))) ∧ Below w.heap.size w w' := by
  obtain ⟨x1, x2⟩ := x
  simp only [encSt]
  have hO : Own w _ [_] := (Own.nil w).alloc 98 #[.int .i64 x1, .bool x2] _ rfl
  have hcl := hO.b0.cell
  have hA2 := (hO.below.cell (p := ⟨g, 0, none⟩) hb).trans hA
  go_enter Tryz.func183, Tryz.ntmps183
  go_wp2_with fail
  go_ret
  refine ⟨?_, hO.below⟩
  by_cases h : x1 = e <;> simp [h]
theorem plover_k (A : Option Addr) (n c : Nat) (p : List St) (e : Int) (w : World) (hp : RowsAt encSt w A p) (hn : p.length = n) (hl : n ≤ 100) : Calls Tryz.prog 126 #[.slice A n c, .int .i64 e] w fun r w' => r = .returned (.bool (overP p e)) ∧ Below w.heap.size w w' := by
  have hO : Own w _ [_] := (Own.nil w).alloc 3 #[.int .i64 e] _ rfl
  have hcl := hO.b0.cell
  have hany := anySt_k 183 enter_over1 #[.pointer (some ⟨w.heap.size, 0, none⟩)] (fun x => decide (x.edge = e)) A n c p _
    (fun W' x hW' => (over1_k x e w.heap.size W' ((hW'.cell (p := ⟨w.heap.size, 0, none⟩) hO.b0.lt).trans (hcl 0)) (Nat.lt_of_lt_of_le hO.b0.lt hW'.size)).mono fun _ _ h => ⟨h.1, below_then hW' h.2⟩) (hp.below hO.below) hn (by omega)
  clear hn
  unfold overP
  go_enter Tryz.func126, Tryz.ntmps126
  go_wp2_with (first
    | (go_at_call 124; (with_reducible refine hany.mono ?_); rintro e w1 ⟨rfl, hb1⟩; replace hO := hO.grow hb1))
  go_ret
  exact ⟨rfl, hO.below⟩
theorem twice_step {p : List St} {k : Nat} {s : St} (h : p[k]? = some s) : twiceP (p.take k) (p.drop k) = (overP (p.take k) s.edge || twiceP (p.take (k + 1)) (p.drop (k + 1))) := by
  rw [drop_cons h, take_snoc' h, twiceP]
set_option maxRecDepth 8000 in
set_option maxHeartbeats 2000000 in
theorem twice_k (A : Option Addr) (n c : Nat) (p : List St) (w : World) (hp : RowsAt encSt w A p) (hn : p.length = n) (hl : n ≤ 100) (hc : n ≤ c) : Calls Tryz.prog 76 #[.slice A n c] w fun r w' => r = .returned (.bool (twiceP [] p)) ∧ Below w.heap.size w w' := by
  have HN := Lib.hid hn
  clear hn
  go_enter Tryz.func76, Tryz.ntmps76
  go_wp2
  go_loopw [7] (fun i wr => ∃ k : Nat, i = .int .i64 k ∧ k ≤ n ∧ Hid (twiceP [] p = twiceP (p.take k) (p.drop k)) ∧ Below w.heap.size w wr) (fun i _ => n - (intOf i).toNat)
  case atStart => exact ⟨0, rfl, Nat.zero_le _, Lib.hid (by simp), Below.refl _ _⟩
  case round =>
    obtain ⟨k, rfl, hk, hap, hB⟩ := hrel
    by_cases hlt : k < n
    · obtain ⟨s, hs⟩ := get_some HN.out hlt
      obtain ⟨g, off, rfl, hg, a0, a1⟩ := hp.st hs
      have kk0 := (hB.cell (p := ⟨g, off + k * 2, none⟩) hg).trans a0
      have kk1 := (hB.cell (p := ⟨g, off + k * 2 + 1, none⟩) hg).trans a1
      have hstep := twice_step hs
      rw [← hap.out] at hstep
      have hov := fun W (hW : Below w.heap.size w W) => plover_k (some ⟨g, off, none⟩) k c (p.take k) s.edge W ((hp.part k).below hW) (by rw [List.length_take, HN.out]; omega) (by omega)
      obtain ⟨x1, x2⟩ := s
      simp only at kk0 kk1 hov hstep
      have hO1 : Own wr _ [_] := (Own.nil wr).alloc 98 #[.int .i64 x1, .bool x2] _ rfl
      clear hs a0 a1
      generalize overP (p.take k) x1 = ov at *
      go_wp2
      cases ov with
      | true =>
        have hap' := Lib.hid hstep
        clear hstep hap
        apply wp_region_lex
        case hFl =>
          intro u
          simp only [List.map, fill, Act.put, List.setIfInBounds_toArray, List.set_cons_zero, List.set_cons_succ, Nat.reduceAdd, Nat.zero_add]
          rfl
        case hm => kernel_rfl
        case hB => kernel_rfl
        case hap => kernel_rfl
        repeat (first
          | (apply Lex.is
             · (intro u w' hk hd
                simp [Waited, Region.binds, Is] at hd
                refine looked_want ?_ ?_
                · first
                  | rfl
                  | (simp [Region.wanted, yielded, hd]; done)
                intro K hK
                have hO2 := hO1.grow hk; have hB2 := below_then hB hO2.below; have hca := hO2.b0.cell
                go_wp2_with (go_at_call 126; (with_reducible refine (hov _ hB2).mono ?_); rintro e w3 ⟨rfl, hb3⟩)
                try simp only [hd] at hK
                refine hK _ _ ?_ rfl
                first | exact Below.refl _ _ | exact hb3))
          | (refine Lex.is (c := undef) ?_ ?_
             · (intro u w' hk hd
                simp [Waited, Region.binds, Is] at hd
                refine looked_skip ?_ rfl
                first
                | (simp [Region.wanted, yielded, hd]; done)
                | (simp [Region.wanted, yielded, hd, undef]; done))))
        apply Lex.nil
        intro u w' hk hd
        simp only [List.nil_append, List.cons_append] at hd
        have hlast := hd 5 _ rfl
        simp only [Is] at hlast
        clear hd
        simp only [hlast]
        have hB3 := below_then hB (hO1.grow hk).below
        go_wp2_with fail
        go_ret
        exact ⟨by simp [hap'.out], hB3⟩
      | false =>
        rw [Bool.false_or] at hstep
        have hap' := Lib.hid hstep
        clear hstep hap
        apply wp_region_lex
        case hFl =>
          intro u
          simp only [List.map, fill, Act.put, List.setIfInBounds_toArray, List.set_cons_zero, List.set_cons_succ, Nat.reduceAdd, Nat.zero_add]
          rfl
        case hm => kernel_rfl
        case hB => kernel_rfl
        case hap => kernel_rfl
        repeat (first
          | (apply Lex.is
             · (intro u w' hk hd
                simp [Waited, Region.binds, Is] at hd
                refine looked_want ?_ ?_
                · first
                  | rfl
                  | (simp [Region.wanted, yielded, hd]; done)
                intro K hK
                have hO2 := hO1.grow hk; have hB2 := below_then hB hO2.below; have hca := hO2.b0.cell
                go_wp2_with (go_at_call 126; (with_reducible refine (hov _ hB2).mono ?_); rintro e w3 ⟨rfl, hb3⟩)
                try simp only [hd] at hK
                refine hK _ _ ?_ rfl
                first | exact Below.refl _ _ | exact hb3))
          | (refine Lex.is (c := undef) ?_ ?_
             · (intro u w' hk hd
                simp [Waited, Region.binds, Is] at hd
                refine looked_skip ?_ rfl
                first
                | (simp [Region.wanted, yielded, hd]; done)
                | (simp [Region.wanted, yielded, hd, undef]; done))))
        apply Lex.nil
        intro u w' hk hd
        simp only [List.nil_append, List.cons_append] at hd
        have hlast := hd 5 _ rfl
        simp only [Is] at hlast
        clear hd
        simp only [hlast]
        have hB3 := below_then hB (hO1.grow hk).below
        go_wp2_with fail
        go_roundw
        case rel => exact ⟨k + 1, by go_num, by omega, hap', hB3⟩
        case measure => simp [intOf]; omega
    · obtain rfl : k = n := by omega
      have hap' : twiceP [] p = false := by
        rw [hap.out, List.drop_of_length_le (by rw [HN.out]; exact Nat.le_refl _)]
        rfl
      have HAP := Lib.hid hap'
      clear hap'
      go_wp2_with fail
      go_ret
      exact ⟨by simp [HAP.out], hB⟩
theorem reach_drop {l : List Sc} {k : Nat} {s : Sc} {age n : Int} (h : l[k]? = some s) : reachP (l.drop k) age n = if s.timer ≤ age then n else reachP (l.drop (k + 1)) age s.to_ := by
  rw [drop_cons h, reachP]
set_option maxHeartbeats 2000000 in
theorem reach_m (m : Ma) (v : MaM) (age : Int) (w : World) (h : MaIs w m v) : Calls Tryz.prog 8 #[.agg (maC m v), .int .i64 age] w fun r w' => r = .returned (.int .i64 (reachP m.sects age 0)) ∧ Below w.heap.size w w' := by
  have hO : Own w _ [_] := (Own.nil w).alloc 42 (maC m v) _ rfl
  have hcl := hO.b0.cell
  have hl2 := h.l2
  unfold maC at *
  go_enter Tryz.func8, Tryz.ntmps8
  go_wp2
  go_loopw [5, 11] (fun s i wr => ∃ (k : Nat) (x : Int), i = .int .i64 k ∧ k ≤ v.n2 ∧ s = .int .i64 x ∧ Hid (reachP m.sects age 0 = reachP (m.sects.drop k) age x) ∧ Below w.heap.size w wr) (fun _ i _ => v.n2 - (intOf i).toNat)
  case atStart => exact ⟨0, 0, rfl, Nat.zero_le _, rfl, Lib.hid (by simp), hO.below⟩
  case round =>
    clear hO hcl
    obtain ⟨k, x, rfl, hk, rfl, hap, hB⟩ := hrel
    by_cases hlt : k < v.n2
    · obtain ⟨s, hs⟩ := get_some h.e2 hlt
      obtain ⟨g, off, hA2, hg, a0, a1⟩ := h.sects.sc hs
      have kk0 := (hB.cell (p := ⟨g, off + k * 2, none⟩) hg).trans a0
      have kk1 := (hB.cell (p := ⟨g, off + k * 2 + 1, none⟩) hg).trans a1
      have hstep := reach_drop (age := age) (n := x) hs
      rw [← hap.out] at hstep
      obtain ⟨x1, x2⟩ := s
      simp only at kk0 kk1 hstep
      have hO1 : Own wr _ [_] := (Own.nil wr).alloc 80 #[.int .i64 x1, .int .i64 x2] _ rfl
      have hcm := hO1.b0.cell
      clear hs a0 a1
      simp only [hA2]
      by_cases h1 : x2 ≤ age
      · rw [if_pos h1] at hstep
        have HS := Lib.hid hstep
        clear hstep hap
        go_wp2_with fail
        go_ret
        exact ⟨by simp [HS.out], below_then hB hO1.below⟩
      · rw [if_neg h1] at hstep
        have HS := Lib.hid hstep
        clear hstep hap
        go_wp2_with fail
        go_roundw
        case rel => exact ⟨k + 1, x1, by go_num, by omega, rfl, HS, below_then hB hO1.below⟩
        case measure => simp [intOf]; omega
    · obtain rfl : k = v.n2 := by omega
      have hap' : reachP m.sects age 0 = x := by
        rw [hap.out, List.drop_of_length_le (by rw [h.e2]; exact Nat.le_refl _)]
        rfl
      have HAP := Lib.hid hap'
      clear hap'
      go_wp2_with fail
      go_ret
      exact ⟨by simp [HAP.out], hB⟩
end Go.Proofs.YtpjdcpicfkdioaaGreatDoor
/- plan.left: how much of an authority's way lies ahead of its balise group. -/
set_option linter.unusedSimpArgs false
set_option linter.unusedVariables false
namespace Go.Proofs.YtpjdcpicfkdioaaGreatDoor
open Go.RowKit Go.Shelf

def leftV (o : Option (Int × Int)) : Value := match o with
  | none => .tuple #[.int .i64 0, .int .i64 0, .bool false]
  | some x => .tuple #[.int .i64 x.1, .int .i64 x.2, .bool true]
theorem head_get {α : Type} {l : List α} {x : α} (h : l[0]? = some x) : l.head? = some x := by
  cases l with
  | nil => simp at h
  | cons y l => simpa using h
set_option maxRecDepth 8000 in
set_option maxHeartbeats 4000000 in
theorem left_m {w : World} {t : Tp} {m : TpM} (h : TpIs w t m) (ma : Ma) (v : MaM) (hm : MaIs w ma v) (hc : checkT t = 0) : Calls Tryz.prog 58 #[.agg m.cells, .agg (maC ma v)] w fun e w' => e = .returned (leftV (leftP t ma)) ∧ Below w.heap.size w w' := by
  have hO : Own w _ [_, _] := Own.start2 w 27 42 m.cells (maC ma v)
  have hcl := hO.b0.cell
  have hcm := hO.b1.cell
  have hbal := fun W (hW : Below w.heap.size w W) => bal_m (h.below hW) ma.ref
  have hle := fun W (hW : Below w.heap.size w W) => len_m (h.below hW) v.A1 v.n1 v.c1 ma.path (hm.path.below hW) hm.e1 hm.l1
  have hr : leftP t ma = match balT t ma.ref with
    | none => none
    | some b => if ma.path.head? ≠ some ⟨b.edge, ma.rev⟩ ∨ lenE t ma.path ≠ 0 then none else (let behind := if ma.rev then edgeT t b.edge - b.at_ else b.at_; some (lenT t ma.path - behind, behind)) := rfl
  generalize leftP t ma = lp at *
  unfold maC at *
  cases hb : balT t ma.ref with
  | none =>
    rw [hb] at hr hbal
    simp only [Option.getD_none, Option.isSome_none] at hbal
    obtain rfl : lp = none := hr
    clear hb hle
    unfold TpM.cells leftV at *
    go_enter Tryz.func58, Tryz.ntmps58
    go_wp2_with (first
      | (go_at_call 37; (with_reducible refine (hbal _ hO.below).mono ?_); rintro e w1 ⟨rfl, hb1⟩; replace hO := hO.grow hb1))
    replace hO := Own.new2 hO 96 #[.int .i64 0, .int .i64 0, .int .i64 0]
    apply wp_region_lex
    case hFl =>
      intro u
      simp only [List.map, fill, Act.put, List.setIfInBounds_toArray, List.set_cons_zero, List.set_cons_succ, Nat.reduceAdd, Nat.zero_add]
      rfl
    case hm => kernel_rfl
    case hB => kernel_rfl
    case hap => kernel_rfl
    repeat (first
      | (apply Lex.is
         · (intro u w' hk hd
            simp [Waited, Region.binds, Is] at hd
            refine looked_want ?_ ?_
            · first
              | rfl
              | (simp [Region.wanted, yielded, hd]; done)
            intro K hK
            have hO2 := hO.grow hk; have hB2 := hO2.below; have hca := hO2.b0.cell; have hcb := hO2.b1.cell; have hcc := hO2.b2.cell
            go_wp2_with (fail)
            try simp only [hd] at hK
            refine hK _ _ ?_ rfl
            first | exact Below.refl _ _ | exact hb3))
      | (refine Lex.is (c := undef) ?_ ?_
         · (intro u w' hk hd
            simp [Waited, Region.binds, Is] at hd
            refine looked_skip ?_ rfl
            first
            | (simp [Region.wanted, yielded, hd]; done)
            | (simp [Region.wanted, yielded, hd, undef]; done))))
    apply Lex.nil
    intro u w' hk hd
    simp only [List.nil_append, List.cons_append] at hd
    have hlast := hd 19 _ rfl
    simp only [Is] at hlast
    clear hd
    simp only [hlast]
    have hB3 := (hO.grow hk).below
    go_wp2_with fail
    go_ret3
    exact ⟨rfl, hB3⟩
  | some b =>
    rw [hb] at hr hbal
    simp only [Option.getD_some, Option.isSome_some] at hbal hr
    obtain ⟨hth, hb0, hb1'⟩ := check_bal hc hb
    obtain ⟨i, ev, ge, offe, hi, hin, hie, hA1, hke, hev⟩ := edge_at h hth
    have hmax := check_edges hc ev hev
    rw [hie] at hr hb1'
    have hlb : lenE t ma.path = 0 → 0 ≤ lenT t ma.path ∧ lenT t ma.path ≤ 100000000 := by
      intro h0
      have hok := len_ok h0
      have := lens_nonneg (check_edges hc) ma.path hok.2.2.1
      rw [len_is (check_edges hc) h0]
      omega
    obtain ⟨b1, b2, b3⟩ := b
    simp only at hi hr hb0 hb1' hbal
    subst hi
    clear hb hth hie hev
    simp only [TpM.cells, hA1] at hO hcl hbal hle ⊢
    cases hpath : ma.path with
    | nil =>
      obtain rfl : lp = none := by rw [hr, if_pos (.inl (by rw [hpath]; simp))]
      have hz : v.n1 = 0 := by rw [← hm.e1, hpath]; rfl
      have e1 : ((v.n1 : Int) == 0) = true := by simp [hz]
      clear hr hlb hle hz hpath
      unfold leftV
      go_enter Tryz.func58, Tryz.ntmps58
      go_wp2_with (first
        | (go_at_call 37; (with_reducible refine (hbal _ hO.below).mono ?_); rintro e w1 ⟨rfl, hb1⟩; replace hO := hO.grow hb1))
      replace hO := Own.new2 hO 96 #[.int .i64 b1, .int .i64 i, .int .i64 b3]
      apply wp_region_lex
      case hFl =>
        intro u
        simp only [List.map, fill, Act.put, List.setIfInBounds_toArray, List.set_cons_zero, List.set_cons_succ, Nat.reduceAdd, Nat.zero_add]
        rfl
      case hm => kernel_rfl
      case hB => kernel_rfl
      case hap => kernel_rfl
      repeat (first
        | (apply Lex.is
           · (intro u w' hk hd
              simp [Waited, Region.binds, Is] at hd
              refine looked_want ?_ ?_
              · first
                | rfl
                | (simp [Region.wanted, yielded, hd]; done)
              intro K hK
              have hO2 := hO.grow hk; have hB2 := hO2.below; have hca := hO2.b0.cell; have hcb := hO2.b1.cell; have hcc := hO2.b2.cell
              go_wp2_with (fail)
              try simp only [hd] at hK
              refine hK _ _ ?_ rfl
              first | exact Below.refl _ _ | exact hb3))
        | (refine Lex.is (c := undef) ?_ ?_
           · (intro u w' hk hd
              simp [Waited, Region.binds, Is] at hd
              refine looked_skip ?_ rfl
              first
              | (simp [Region.wanted, yielded, hd]; done)
              | (simp [Region.wanted, yielded, hd, undef]; done))))
      apply Lex.nil
      intro u w' hk hd
      simp only [List.nil_append, List.cons_append] at hd
      have hlast := hd 19 _ rfl
      simp only [Is] at hlast
      clear hd
      simp only [hlast]
      have hB3 := (hO.grow hk).below
      go_wp2_with fail
      go_ret3
      exact ⟨rfl, hB3⟩
    | cons s0 rest =>
      have hs : ma.path[0]? = some s0 := by rw [hpath]; rfl
      have hpos : 0 < v.n1 := by rw [← hm.e1, hpath]; simp
      obtain ⟨g, off, hA, hg, a0, a1⟩ := hm.path.st hs
      have ka0 := fun W (hW : Below w.heap.size w W) => (hW.cell (p := ⟨g, off + 0 * 2, none⟩) hg).trans a0
      have ka1 := fun W (hW : Below w.heap.size w W) => (hW.cell (p := ⟨g, off + 0 * 2 + 1, none⟩) hg).trans a1
      have e1 : ((v.n1 : Int) == 0) = false := by simp; omega
      have hneq := fun W => run_neq_st s0 ⟨i, ma.rev⟩ W
      obtain ⟨sm, hsm⟩ : ∃ b, b = decide (s0 = (⟨i, ma.rev⟩ : St)) := ⟨_, rfl⟩
      have hrr : lp = if sm = false ∨ lenE t ma.path ≠ 0 then none else some (lenT t ma.path - (if ma.rev then ev - b3 else b3), if ma.rev then ev - b3 else b3) := by
        rw [hr, head_get hs, hsm]
        simp
      rw [← hsm] at hneq
      have hl1 := hm.l1
      clear hr hsm hs hpath a0 a1
      generalize lenT t ma.path = lt at *
      generalize lenE t ma.path = le at *
      obtain ⟨x1, x2⟩ := s0
      simp only [Nat.zero_mul, Nat.add_zero, hA] at hO hcl hcm hneq hle ka0 ka1 ⊢
      cases sm with
      | false =>
        obtain rfl : lp = none := by rw [hrr, if_pos (.inl rfl)]
        clear hrr hle hlb
        unfold leftV
        go_enter Tryz.func58, Tryz.ntmps58
        go_wp2_with (first
          | (go_at_call 37; (with_reducible refine (hbal _ hO.below).mono ?_); rintro e w1 ⟨rfl, hb1⟩; replace hO := hO.grow hb1))
        replace hO := Own.new2 hO 96 #[.int .i64 b1, .int .i64 i, .int .i64 b3]
        apply wp_region_lex
        case hFl =>
          intro u
          simp only [List.map, fill, Act.put, List.setIfInBounds_toArray, List.set_cons_zero, List.set_cons_succ, Nat.reduceAdd, Nat.zero_add]
          rfl
        case hm => kernel_rfl
        case hB => kernel_rfl
        case hap => kernel_rfl
        repeat (first
          | (apply Lex.is
             · (intro u w' hk hd
                simp [Waited, Region.binds, Is] at hd
                refine looked_want ?_ ?_
                · first
                  | rfl
                  | (simp [Region.wanted, yielded, hd]; done)
                intro K hK
                have hO2 := hO.grow hk; have hB2 := hO2.below; have hca := hO2.b0.cell; have hcb := hO2.b1.cell; have hcc := hO2.b2.cell; have m1 := ka0 _ hB2; have m2 := ka1 _ hB2
                go_wp2_with (fail)
                try simp only [hd] at hK
                refine hK _ _ ?_ rfl
                first | exact Below.refl _ _ | exact hb3))
          | (refine Lex.is (c := undef) ?_ ?_
             · (intro u w' hk hd
                simp [Waited, Region.binds, Is] at hd
                refine looked_skip ?_ rfl
                first
                | (simp [Region.wanted, yielded, hd]; done)
                | (simp [Region.wanted, yielded, hd, undef]; done))))
        apply Lex.nil
        intro u w' hk hd
        simp only [List.nil_append, List.cons_append] at hd
        have hlast := hd 19 _ rfl
        simp only [Is] at hlast
        clear hd
        simp only [hlast]
        have hB3 := (hO.grow hk).below
        go_wp2_with fail
        go_ret3
        exact ⟨rfl, hB3⟩
      | true =>
        by_cases hle0 : le = 0
        · obtain ⟨l0, l1⟩ := hlb hle0
          subst hle0
          rw [if_neg (by simp)] at hrr
          obtain ⟨rv, hrv⟩ : ∃ b, b = ma.rev := ⟨_, rfl⟩
          rw [← hrv] at hrr
          simp only [← hrv] at hO hcm hneq ⊢
          cases rv with
          | false =>
            obtain rfl : lp = some (lt - b3, b3) := by rw [hrr]; simp
            clear hrr hlb hrv
            unfold leftV
            go_enter Tryz.func58, Tryz.ntmps58
            go_wp2_with (first
              | (go_at_call 37; (with_reducible refine (hbal _ hO.below).mono ?_); rintro e w1 ⟨rfl, hb1⟩; replace hO := hO.grow hb1))
            replace hO := Own.new2 hO 96 #[.int .i64 b1, .int .i64 i, .int .i64 b3]
            apply wp_region_lex
            case hFl =>
              intro u
              simp only [List.map, fill, Act.put, List.setIfInBounds_toArray, List.set_cons_zero, List.set_cons_succ, Nat.reduceAdd, Nat.zero_add]
              rfl
            case hm => kernel_rfl
            case hB => kernel_rfl
            case hap => kernel_rfl
            repeat (first
              | (apply Lex.is
                 · (intro u w' hk hd
                    simp [Waited, Region.binds, Is] at hd
                    refine looked_want ?_ ?_
                    · first
                      | rfl
                      | (simp [Region.wanted, yielded, hd]; done)
                    intro K hK
                    have hO2 := hO.grow hk; have hB2 := hO2.below; have hca := hO2.b0.cell; have hcb := hO2.b1.cell; have hcc := hO2.b2.cell; have m1 := ka0 _ hB2; have m2 := ka1 _ hB2
                    go_wp2_with (fail)
                    try simp only [hd] at hK
                    refine hK _ _ ?_ rfl
                    first | exact Below.refl _ _ | exact hb3))
              | (refine Lex.is (c := undef) ?_ ?_
                 · (intro u w' hk hd
                    simp [Waited, Region.binds, Is] at hd
                    refine looked_skip ?_ rfl
                    first
                    | (simp [Region.wanted, yielded, hd]; done)
                    | (simp [Region.wanted, yielded, hd, undef]; done))))
            apply Lex.nil
            intro u w' hk hd
            simp only [List.nil_append, List.cons_append] at hd
            have hlast := hd 19 _ rfl
            simp only [Is] at hlast
            clear hd
            simp only [hlast]
            replace hO := hO.grow hk
            have hcl2 := hO.b0.cell
            have hcm2 := hO.b1.cell
            have hcb2 := hO.b2.cell
            go_wp2_with (first
              | (go_at_call 103; (with_reducible refine (hle _ hO.below).mono ?_); rintro e w2 ⟨rfl, hb2⟩; replace hO := hO.grow hb2; have hcl3 := hO.b0.cell; have hcm3 := hO.b1.cell; have hcb3 := hO.b2.cell))
            go_ret3
            exact ⟨rfl, hO.below⟩
          | true =>
            obtain rfl : lp = some (lt - (ev - b3), ev - b3) := by rw [hrr]; simp
            clear hrr hlb hrv
            unfold leftV
            go_enter Tryz.func58, Tryz.ntmps58
            go_wp2_with (first
              | (go_at_call 37; (with_reducible refine (hbal _ hO.below).mono ?_); rintro e w1 ⟨rfl, hb1⟩; replace hO := hO.grow hb1))
            replace hO := Own.new2 hO 96 #[.int .i64 b1, .int .i64 i, .int .i64 b3]
            apply wp_region_lex
            case hFl =>
              intro u
              simp only [List.map, fill, Act.put, List.setIfInBounds_toArray, List.set_cons_zero, List.set_cons_succ, Nat.reduceAdd, Nat.zero_add]
              rfl
            case hm => kernel_rfl
            case hB => kernel_rfl
            case hap => kernel_rfl
            repeat (first
              | (apply Lex.is
                 · (intro u w' hk hd
                    simp [Waited, Region.binds, Is] at hd
                    refine looked_want ?_ ?_
                    · first
                      | rfl
                      | (simp [Region.wanted, yielded, hd]; done)
                    intro K hK
                    have hO2 := hO.grow hk; have hB2 := hO2.below; have hca := hO2.b0.cell; have hcb := hO2.b1.cell; have hcc := hO2.b2.cell; have m1 := ka0 _ hB2; have m2 := ka1 _ hB2
                    go_wp2_with (fail)
                    try simp only [hd] at hK
                    refine hK _ _ ?_ rfl
                    first | exact Below.refl _ _ | exact hb3))
              | (refine Lex.is (c := undef) ?_ ?_
                 · (intro u w' hk hd
                    simp [Waited, Region.binds, Is] at hd
                    refine looked_skip ?_ rfl
                    first
                    | (simp [Region.wanted, yielded, hd]; done)
                    | (simp [Region.wanted, yielded, hd, undef]; done))))
            apply Lex.nil
            intro u w' hk hd
            simp only [List.nil_append, List.cons_append] at hd
            have hlast := hd 19 _ rfl
            simp only [Is] at hlast
            clear hd
            simp only [hlast]
            replace hO := hO.grow hk
            clear hk hlast
            have hcl2 := hO.b0.cell
            have hcm2 := hO.b1.cell
            have hcb2 := hO.b2.cell
            go_wp2_with (first
              | (go_at_call 103; (with_reducible refine (hle _ hO.below).mono ?_); rintro e w2 ⟨rfl, hb2⟩; replace hO := hO.grow hb2; have hcl3 := hO.b0.cell; have hcm3 := hO.b1.cell; have hcb3 := hO.b2.cell))
            apply wp_region_lex
            case hFl =>
              intro u
              simp only [List.map, fill, Act.put, List.setIfInBounds_toArray, List.set_cons_zero, List.set_cons_succ, Nat.reduceAdd, Nat.zero_add]
              rfl
            case hm => kernel_rfl
            case hB => kernel_rfl
            case hap => kernel_rfl
            repeat (first
              | (apply Lex.is
                 · (intro u w' hk hd
                    simp [Waited, Region.binds, Is] at hd
                    refine looked_want ?_ ?_
                    · first
                      | rfl
                      | (simp [Region.wanted, yielded, hd]; done)
                    intro K hK
                    have hO2 := hO.grow hk; have hB2 := hO2.below; have hca := hO2.b0.cell; have hcb := hO2.b1.cell; have hcc := hO2.b2.cell; have m1 := hke _ hB2
                    go_wp2_with (fail)
                    try simp only [hd] at hK
                    refine hK _ _ ?_ rfl
                    first | exact Below.refl _ _ | exact hb3))
              | (refine Lex.is (c := undef) ?_ ?_
                 · (intro u w' hk hd
                    simp [Waited, Region.binds, Is] at hd
                    refine looked_skip ?_ rfl
                    first
                    | (simp [Region.wanted, yielded, hd]; done)
                    | (simp [Region.wanted, yielded, hd, undef]; done))))
            apply Lex.nil
            intro u w' hk hd
            simp only [List.nil_append, List.cons_append] at hd
            have hlast := hd 9 _ rfl
            simp only [Is] at hlast
            clear hd
            simp only [hlast]
            have hB3 := (hO.grow hk).below
            go_wp2_with fail
            go_ret3
            exact ⟨rfl, hB3⟩
        · obtain rfl : lp = none := by rw [hrr, if_pos (.inr hle0)]
          have hne : (le != 0) = true := by simpa using hle0
          clear hrr hlb hle0
          unfold leftV
          go_enter Tryz.func58, Tryz.ntmps58
          go_wp2_with (first
            | (go_at_call 37; (with_reducible refine (hbal _ hO.below).mono ?_); rintro e w1 ⟨rfl, hb1⟩; replace hO := hO.grow hb1))
          replace hO := Own.new2 hO 96 #[.int .i64 b1, .int .i64 i, .int .i64 b3]
          apply wp_region_lex
          case hFl =>
            intro u
            simp only [List.map, fill, Act.put, List.setIfInBounds_toArray, List.set_cons_zero, List.set_cons_succ, Nat.reduceAdd, Nat.zero_add]
            rfl
          case hm => kernel_rfl
          case hB => kernel_rfl
          case hap => kernel_rfl
          repeat (first
            | (apply Lex.is
               · (intro u w' hk hd
                  simp [Waited, Region.binds, Is] at hd
                  refine looked_want ?_ ?_
                  · first
                    | rfl
                    | (simp [Region.wanted, yielded, hd]; done)
                  intro K hK
                  have hO2 := hO.grow hk; have hB2 := hO2.below; have hca := hO2.b0.cell; have hcb := hO2.b1.cell; have hcc := hO2.b2.cell; have m1 := ka0 _ hB2; have m2 := ka1 _ hB2
                  go_wp2_with (fail)
                  try simp only [hd] at hK
                  refine hK _ _ ?_ rfl
                  first | exact Below.refl _ _ | exact hb3))
            | (refine Lex.is (c := undef) ?_ ?_
               · (intro u w' hk hd
                  simp [Waited, Region.binds, Is] at hd
                  refine looked_skip ?_ rfl
                  first
                  | (simp [Region.wanted, yielded, hd]; done)
                  | (simp [Region.wanted, yielded, hd, undef]; done))))
          apply Lex.nil
          intro u w' hk hd
          simp only [List.nil_append, List.cons_append] at hd
          have hlast := hd 19 _ rfl
          simp only [Is] at hlast
          clear hd
          simp only [hlast]
          replace hO := hO.grow hk
          have hcl2 := hO.b0.cell
          have hcm2 := hO.b1.cell
          go_wp2_with (first
            | (go_at_call 103; (with_reducible refine (hle _ hO.below).mono ?_); rintro e w2 ⟨rfl, hb2⟩; replace hO := hO.grow hb2))
          go_ret3
          exact ⟨rfl, hO.below⟩
end Go.Proofs.YtpjdcpicfkdioaaGreatDoor
