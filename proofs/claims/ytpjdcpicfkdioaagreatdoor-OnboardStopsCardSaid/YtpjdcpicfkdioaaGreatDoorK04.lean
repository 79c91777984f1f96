/- Texts in one: TopoJoins TopoMay TopoEnd TopoWay. -/
import Derived.Test.YtpjdcpicfkdioaaGreatDoorK03
import Derived.Shelf.SlicesQ.Contains
import Derived.Laws.StructEq
import Derived.Ground.SlgqProg
/- topo.joins: does a track join two ends. -/
set_option linter.unusedSimpArgs false
set_option linter.unusedVariables false
namespace Go.Proofs.YtpjdcpicfkdioaaGreatDoor
open Go.RowKit Go.Shelf
def laysHasJt_ren : Go.Shelf.Ren := ⟨fun | 7 => 174 | 6 => 221 | n => n, fun | 22 => 23 | 24 => 94 | 4 => 4 | 0 => 0 | 3 => 3 | n => n, fun | n => n⟩
theorem laysHasJt : Go.Proofs.SlLaysQ.n7 Tryz.prog laysHasJt_ren where
  mixed := by kernel_rfl
  f6 := ⟨"slices.Index[[]lineside/api.Joint,lineside/api.Joint]", by decide, Tryz.func221.trans (congrArg some (by kernel_rfl))⟩
  f7 := ⟨"slices.Contains[[]lineside/api.Joint,lineside/api.Joint]", by decide, Tryz.func174.trans (congrArg some (by kernel_rfl))⟩
  t0 := Tryz.underlying0
  a0 := Tryz.isAgg0
  z0 := Tryz.sizeOf0
  v0 := Tryz.zeroValue0
  t3 := Tryz.underlying3
  a3 := Tryz.isAgg3
  z3 := Tryz.sizeOf3
  v3 := Tryz.zeroValue3
  t4 := Tryz.underlying4
  a4 := Tryz.isAgg4
  z4 := Tryz.sizeOf4
  v4 := Tryz.zeroValue4
  t22 := Tryz.underlying23
  a22 := Tryz.isAgg23
  z22 := Tryz.sizeOf23
  v22 := Tryz.zeroValue23
instance : Inhabited Jt := ⟨⟨⟨0, 0⟩, ⟨0, 0⟩⟩⟩
def eqJt (x y : Jt) : Bool := (x.a.edge == y.a.edge && x.a.at_ == y.a.at_) && (x.b.edge == y.b.edge && x.b.at_ == y.b.at_)
theorem eqlJt : EqlAt Tryz.prog 94 (fun x => .agg (encJt.enc x).toArray) eqJt := by
  refine ⟨fun x y w => ?_, GuardAt.agg _ (by kernel_rfl)⟩
  have u3 := Tryz.underlying3
  have a3 := Tryz.isAgg3
  have z3 := Tryz.sizeOf3
  have uE := Tryz.underlying92
  have aE := Tryz.isAgg92
  have zE := Tryz.sizeOf92
  have hS : Tryz.prog.underlying 94 = some (.struct (Tryz.prog.fieldsOf 94)) := by kernel_rfl
  have hp : Tryz.prog.stoodInHeld 94 = false := by kernel_rfl
  have hSE : Tryz.prog.underlying 92 = some (.struct (Tryz.prog.fieldsOf 92)) := by kernel_rfl
  have hpE : Tryz.prog.stoodInHeld 92 = false := by kernel_rfl
  simp only [encJt]
  rw [run_eql_struct, show (10000 : Nat) = 9998 + 1 + 1 from rfl, run_equalIn_agg w (9998 + 1) 94 _ _ hS hp]
  simp only [Program.fieldsOf, Tryz.underlying94]
  have hE := fun c1 c2 => run_equalIn_agg w 9998 92 c1 c2 hSE hpE
  simp only [Program.fieldsOf, Tryz.underlying92] at hE
  go_simp
  obtain ⟨⟨x1, x2⟩, ⟨x3, x4⟩⟩ := x
  obtain ⟨⟨y1, y2⟩, ⟨y3, y4⟩⟩ := y
  unfold eqJt
  by_cases h1 : x1 = y1 <;> by_cases h2 : x2 = y2 <;> by_cases h3 : x3 = y3 <;> by_cases h4 : x4 = y4 <;> simp [h1, h2, h3, h4]
theorem idxJt0 (A : Option Addr) (c : Nat) (x : Jt) (w : World) : Calls Tryz.prog 221 #[.slice A 0 c, .agg (encJt.enc x).toArray] w fun e w' => e = .returned (.int .i64 (-1)) ∧ Below w.heap.size w w' := by
  have hO : Own w _ [_] := (Own.nil w).alloc 94 (encJt.enc x).toArray _ rfl
  go_enter Tryz.func221, Tryz.ntmps221
  go_wp2
  go_loopg [5, 8] 0 (fun _ _ s8 wr => s8 = .int .i64 0 ∧ Below w.heap.size w wr)
  case atStart => exact ⟨rfl, hO.below⟩
  case round =>
    obtain ⟨rfl, hw⟩ := hrel
    go_wp2
    go_ret
    exact ⟨rfl, hw⟩
theorem hasJt_k (A : Option Addr) (n c : Nat) (js : List Jt) (x : Jt) (w : World) (hR : RowsAt encJt w A js) (hn : js.length = n) (hb : n ≤ 9223372036854775807) :
    Calls Tryz.prog 174 #[.slice A n c, .agg (encJt.enc x).toArray] w fun e w' => e = .returned (.bool (js.any fun y => eqJt x y)) ∧ Below w.heap.size w w' := by
  cases n with
  | zero =>
    have : js = [] := List.length_eq_zero_iff.1 hn
    subst this
    have hO : Own w _ [_] := (Own.nil w).alloc 94 (encJt.enc x).toArray _ rfl
    have hcl := hO.b0.cell
    have h0 := fun W => idxJt0 A c x W
    simp only [encJt] at *
    go_enter Tryz.func174, Tryz.ntmps174
    go_wp2_with (first
      | (go_at_call 221; (with_reducible refine (h0 _).mono ?_); rintro e w1 ⟨rfl, hb1⟩; replace hO := hO.grow hb1))
    go_ret
    exact ⟨rfl, hO.below⟩
  | succ n =>
    have h0 : 0 < js.length := by omega
    obtain ⟨b, off, rfl, hbs, _⟩ := hR.get (List.getElem?_eq_getElem h0)
    have := AnyQ.slices_Contains laysHasJt 4 Tryz.isAgg94 Tryz.sizeOf94 encJt.enc encJt.len eqJt eqlJt b off (n + 1) c js x w (by omega) hb ?_
    · rw [← hn, List.take_length] at this
      rw [← hn]
      exact this
    · intro j hj i u hi
      obtain ⟨b', off', e, _, hc⟩ := hR.get (List.getElem?_eq_getElem hj)
      simp only [Option.some.injEq, Addr.mk.injEq] at e
      obtain ⟨rfl, rfl, -⟩ := e
      rw [getElem!_pos js j hj] at hi
      exact hc i u hi
theorem eqJt_is (x y : Jt) : eqJt x y = decide (x = y) := by
  obtain ⟨⟨x1, x2⟩, ⟨x3, x4⟩⟩ := x
  obtain ⟨⟨y1, y2⟩, ⟨y3, y4⟩⟩ := y
  unfold eqJt
  by_cases h1 : x1 = y1 <;> by_cases h2 : x2 = y2 <;> by_cases h3 : x3 = y3 <;> by_cases h4 : x4 = y4 <;> simp [h1, h2, h3, h4]
theorem any_is (js : List Jt) (x : Jt) : (js.any fun y => eqJt x y) = decide (x ∈ js) := by
  rw [Bool.eq_iff_iff]
  simp [eqJt_is]
set_option maxHeartbeats 2000000 in
theorem tojoins_k (t : Tp) (v : TpV) (a b : En) (w : World) (hR : RowsAt encJt w v.Aj t.joints) (hn : t.joints.length ≤ 9223372036854775807) : Calls Tryz.prog 115 #[.agg (v.cells t), enV a, enV b] w fun r w' => r = .returned (.bool (joinsT t.joints a b)) ∧ Below w.heap.size w w' := by
  unfold TpV.cells joinsT
  have h1 := fun W (hW : Below w.heap.size w W) => hasJt_k v.Aj t.joints.length v.cj t.joints ⟨a, b⟩ W (hR.below hW) rfl hn
  have h2 := fun W (hW : Below w.heap.size w W) => hasJt_k v.Aj t.joints.length v.cj t.joints ⟨b, a⟩ W (hR.below hW) rfl hn
  simp only [any_is] at h1 h2
  generalize decide (⟨a, b⟩ ∈ t.joints) = r1 at h1 ⊢
  generalize decide (⟨b, a⟩ ∈ t.joints) = r2 at h2 ⊢
  generalize t.joints.length = n2 at *
  generalize t.edges.length = n1
  generalize t.bals.length = n3
  generalize t.routes.length = n4
  obtain ⟨A1, c1, A2, c2, A3, c3, A4, c4, rs⟩ := v
  obtain ⟨a1, a2⟩ := a
  obtain ⟨b1, b2⟩ := b
  simp only [encJt] at h1 h2 ⊢
  clear hR hn
  have hO : Own w _ [_, _, _] := Own.start3 w 27 92 92 #[.slice A1 n1 c1, .slice A2 n2 c2, .slice A3 n3 c3, .slice A4 n4 c4] #[.int .i64 a1, .int .i64 a2] #[.int .i64 b1, .int .i64 b2]
  have hcl := hO.b0.cell
  have hcl1 := hO.b1.cell
  have hcl2 := hO.b2.cell
  cases r1
  · go_enter Tryz.func115, Tryz.ntmps115
    go_wp2_with (first
      | (go_at_call 174; (with_reducible refine (h1 _ hO.below).mono ?_); rintro e w1 ⟨rfl, hb1⟩; replace hO := hO.grow hb1; have hcl3 := hO.b0.cell; have hcl4 := hO.b1.cell; have hcl5 := hO.b2.cell)
      | (go_at_call 174; (with_reducible refine (h2 _ hO.below).mono ?_); rintro e w2 ⟨rfl, hb2⟩; replace hO := hO.grow hb2)
      )
    go_ret
    exact ⟨by simp, hO.below⟩
  · go_enter Tryz.func115, Tryz.ntmps115
    go_wp2_with (first
      | (go_at_call 174; (with_reducible refine (h1 _ hO.below).mono ?_); rintro e w1 ⟨rfl, hb1⟩; replace hO := hO.grow hb1; have hcl3 := hO.b0.cell; have hcl4 := hO.b1.cell; have hcl5 := hO.b2.cell)
      )
    go_ret
    exact ⟨by simp, hO.below⟩
end Go.Proofs.YtpjdcpicfkdioaaGreatDoor
/- topo.may: may a step follow another one. -/
set_option linter.unusedSimpArgs false
set_option linter.unusedVariables false
namespace Go.Proofs.YtpjdcpicfkdioaaGreatDoor
open Go.RowKit
set_option maxRecDepth 8000 in
set_option maxHeartbeats 2000000 in
theorem tomay_k (t : Tp) (v : TpV) (a b : St) (w : World) (hR : RowsAt encJt w v.Aj t.joints) (hn : t.joints.length ≤ 9223372036854775807) : Calls Tryz.prog 215 #[.agg (v.cells t), stV a, stV b] w fun r w' => r = .returned (.bool (mayT t a b)) ∧ Below w.heap.size w w' := by
  have hj := fun W (hW : Below w.heap.size w W) => tojoins_k t v (leavesT a) (entersT b) W (hR.below hW) hn
  have hl := fun W => toleaves_k a W
  have he := fun W => toenters_k b W
  unfold mayT
  unfold TpV.cells at hj ⊢
  generalize joinsT t.joints (leavesT a) (entersT b) = r at hj ⊢
  generalize leavesT a = la at *
  generalize entersT b = eb at *
  clear hR hn
  generalize t.joints.length = n2 at *
  generalize t.edges.length = n1 at *
  generalize t.bals.length = n3 at *
  generalize t.routes.length = n4 at *
  obtain ⟨A1, c1, A2, c2, A3, c3, A4, c4, rs⟩ := v
  obtain ⟨a1, a2⟩ := a
  obtain ⟨b1, b2⟩ := b
  obtain ⟨l1, l2⟩ := la
  obtain ⟨e1, e2⟩ := eb
  simp only [stV, enV] at hj hl he ⊢
  go_enter Tryz.func215, Tryz.ntmps215
  go_wp2_with fail
  have hO : Own w _ [_, _, _] := Own.start3 w 27 98 98 #[.slice A1 n1 c1, .slice A2 n2 c2, .slice A3 n3 c3, .slice A4 n4 c4] #[.int .i64 a1, .bool a2] #[.int .i64 b1, .bool b2]
  generalize (((w.alloc (.cells #[.slice A1 n1 c1, .slice A2 n2 c2, .slice A3 n3 c3, .slice A4 n4 c4] 27)).alloc (.cells #[.int .i64 a1, .bool a2] 98)).alloc (.cells #[.int .i64 b1, .bool b2] 98)) = W0 at hO ⊢
  apply wp_region_lex
  case hFl =>
    intro u
    simp only [List.map, fill, Act.put, List.setIfInBounds_toArray, List.set_cons_zero, List.set_cons_succ, Nat.reduceAdd, Nat.zero_add]
    rfl
  case hm => kernel_rfl
  case hB => kernel_rfl
  case hap => kernel_rfl
  apply Lex.is
  · (intro u w' hk hd
     simp [Waited, Region.binds, Is] at hd
     refine looked_want (by first | rfl | simp [Region.wanted, yielded, hd]) ?_
     intro K hK
     have hc0 := (hO.grow hk).b0.cell
     have hc1 := (hO.grow hk).b1.cell
     have hc2 := (hO.grow hk).b2.cell
     go_wp2_with (fail)
     try simp only [hd] at hK
     refine hK _ _ ?_ rfl
     first | exact Below.refl _ _ | exact hb3)
  apply Lex.is
  · (intro u w' hk hd
     simp [Waited, Region.binds, Is] at hd
     refine looked_want (by first | rfl | simp [Region.wanted, yielded, hd]) ?_
     intro K hK
     have hc0 := (hO.grow hk).b0.cell
     have hc1 := (hO.grow hk).b1.cell
     have hc2 := (hO.grow hk).b2.cell
     go_wp2_with (fail)
     try simp only [hd] at hK
     refine hK _ _ ?_ rfl
     first | exact Below.refl _ _ | exact hb3)
  apply Lex.is
  · (intro u w' hk hd
     simp [Waited, Region.binds, Is] at hd
     refine looked_want (by first | rfl | simp [Region.wanted, yielded, hd]) ?_
     intro K hK
     have hc0 := (hO.grow hk).b0.cell
     have hc1 := (hO.grow hk).b1.cell
     have hc2 := (hO.grow hk).b2.cell
     go_wp2_with (go_at_call 179; (with_reducible refine (hl _).mono ?_); rintro e w3 ⟨rfl, hb3⟩)
     try simp only [hd] at hK
     refine hK _ _ ?_ rfl
     first | exact Below.refl _ _ | exact hb3)
  apply Lex.is
  · (intro u w' hk hd
     simp [Waited, Region.binds, Is] at hd
     refine looked_want (by first | rfl | simp [Region.wanted, yielded, hd]) ?_
     intro K hK
     have hc0 := (hO.grow hk).b0.cell
     have hc1 := (hO.grow hk).b1.cell
     have hc2 := (hO.grow hk).b2.cell
     go_wp2_with (fail)
     try simp only [hd] at hK
     refine hK _ _ ?_ rfl
     first | exact Below.refl _ _ | exact hb3)
  apply Lex.is
  · (intro u w' hk hd
     simp [Waited, Region.binds, Is] at hd
     refine looked_want (by first | rfl | simp [Region.wanted, yielded, hd]) ?_
     intro K hK
     have hc0 := (hO.grow hk).b0.cell
     have hc1 := (hO.grow hk).b1.cell
     have hc2 := (hO.grow hk).b2.cell
     go_wp2_with (go_at_call 182; (with_reducible refine (he _).mono ?_); rintro e w3 ⟨rfl, hb3⟩)
     try simp only [hd] at hK
     refine hK _ _ ?_ rfl
     first | exact Below.refl _ _ | exact hb3)
  apply Lex.is
  · (intro u w' hk hd
     simp [Waited, Region.binds, Is] at hd
     refine looked_want (by first | rfl | simp [Region.wanted, yielded, hd]) ?_
     intro K hK
     have hc0 := (hO.grow hk).b0.cell
     have hc1 := (hO.grow hk).b1.cell
     have hc2 := (hO.grow hk).b2.cell
     go_wp2_with (go_at_call 115; (with_reducible refine (hj _ (hO.grow hk).below).mono ?_); rintro e w3 ⟨rfl, hb3⟩)
     try simp only [hd] at hK
     refine hK _ _ ?_ rfl
     first | exact Below.refl _ _ | exact hb3)
  apply Lex.is
  · (intro u w' hk hd
     simp [Waited, Region.binds, Is] at hd
     refine looked_want (by first | rfl | simp [Region.wanted, yielded, hd]) ?_
     intro K hK
     have hc0 := (hO.grow hk).b0.cell
     have hc1 := (hO.grow hk).b1.cell
     have hc2 := (hO.grow hk).b2.cell
     go_wp2_with (fail)
     try simp only [hd] at hK
     refine hK _ _ ?_ rfl
     first | exact Below.refl _ _ | exact hb3)
  apply Lex.nil
  intro u w' hk hd
  simp only [List.nil_append, List.cons_append] at hd
  have hlast := hd 6 _ rfl
  simp only [Is] at hlast
  clear hd
  go_wp2_with fail
  go_ret
  exact ⟨congrArg Ending.returned hlast, below_then hO.below hk⟩
end Go.Proofs.YtpjdcpicfkdioaaGreatDoor
/- topo.end: is an end there. -/
set_option linter.unusedSimpArgs false
set_option linter.unusedVariables false
namespace Go.Proofs.YtpjdcpicfkdioaaGreatDoor
open Go.RowKit
theorem toend_k (t : Tp) (v : TpV) (x : En) (w : World) : Calls Tryz.prog 114 #[.agg (v.cells t), enV x] w fun r w' => r = .returned (.bool (endT t x)) ∧ Below w.heap.size w w' := by
  have ht := fun W => tothere_k t v x.edge W
  unfold endT
  unfold TpV.cells at ht ⊢
  generalize thereT t x.edge = r at ht ⊢
  generalize t.joints.length = n2 at *
  generalize t.edges.length = n1 at *
  generalize t.bals.length = n3 at *
  generalize t.routes.length = n4 at *
  obtain ⟨A1, c1, A2, c2, A3, c3, A4, c4, rs⟩ := v
  obtain ⟨e, a⟩ := x
  simp only [enV] at ht ⊢
  have hO : Own w _ [_, _] := Own.start2 w 27 92 #[.slice A1 n1 c1, .slice A2 n2 c2, .slice A3 n3 c3, .slice A4 n4 c4] #[.int .i64 e, .int .i64 a]
  have hcl := hO.b0.cell
  have hcl1 := hO.b1.cell
  by_cases h0 : a = 0
  · subst h0
    cases r
    all_goals
      go_enter Tryz.func114, Tryz.ntmps114
      go_wp2_with (first
        | (go_at_call 116; (with_reducible refine (ht _).mono ?_); rintro e w1 ⟨rfl, hb1⟩; replace hO := hO.grow hb1; have hcl3 := hO.b1.cell))
      go_ret
      exact ⟨by simp, hO.below⟩
  · cases r
    all_goals
      go_enter Tryz.func114, Tryz.ntmps114
      go_wp2_with (first
        | (go_at_call 116; (with_reducible refine (ht _).mono ?_); rintro e w1 ⟨rfl, hb1⟩; replace hO := hO.grow hb1; have hcl3 := hO.b1.cell))
      go_ret
      refine ⟨?_, hO.below⟩
      by_cases h1 : a = 1 <;> simp [h0, h1]
end Go.Proofs.YtpjdcpicfkdioaaGreatDoor
/- topo.way: are steps a way. The plain part. -/
set_option linter.unusedSimpArgs false
set_option linter.unusedVariables false
namespace Go.Proofs.YtpjdcpicfkdioaaGreatDoor
open Go.RowKit
theorem way_iff (t : Tp) : ∀ p : List St, wayT t p = true ↔ ∀ j a b, p[j]? = some a → p[j + 1]? = some b → mayT t a b = true
  | [] => by simp [wayT]
  | [x] => by
    simp only [wayT, true_iff]
    intro j a b _ h
    simp at h
  | x :: y :: p => by
    rw [wayT, Bool.and_eq_true, way_iff t (y :: p)]
    constructor
    · rintro ⟨h1, h2⟩ j a b ha hb
      cases j with
      | zero =>
        simp at ha hb
        rw [← ha, ← hb]
        exact h1
      | succ j => exact h2 j a b (by simpa using ha) (by simpa using hb)
    · intro h
      exact ⟨h 0 x y rfl rfl, fun j a b ha hb => h (j + 1) a b (by simpa using ha) (by simpa using hb)⟩
/-- A way that does not hold somewhere. -/
theorem way_no {t : Tp} {p : List St} {j : Nat} {a b : St} (ha : p[j]? = some a) (hb : p[j + 1]? = some b) (h : mayT t a b = false) : wayT t p = false := by
  cases hw : wayT t p with
  | false => rfl
  | true =>
    have := (way_iff t p).1 hw j a b ha hb
    rw [h] at this
    cases this
end Go.Proofs.YtpjdcpicfkdioaaGreatDoor
