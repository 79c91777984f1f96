/- Texts in one: TopoMem ShelfA. -/
import Derived.Test.YtpjdcpicfkdioaaGreatDoorK04
import Derived.Lib.Hide
import Derived.Test.YtpjdcpicfkdioaaGreatDoorK05
import Derived.Shelf.SlicesE.IndexFunc
import Derived.WalkSpells
/- The cells of a track with their lengths, as the walks have them. -/
set_option linter.unusedSimpArgs false
set_option linter.unusedVariables false
namespace Go.Proofs.YtpjdcpicfkdioaaGreatDoor
open Go.RowKit

theorem drop_cons {α : Type} {l : List α} {k : Nat} {x : α} (h : l[k]? = some x) : l.drop k = x :: l.drop (k + 1) := by
  obtain ⟨hk, rfl⟩ := List.getElem?_eq_some_iff.1 h
  exact List.drop_eq_getElem_cons hk
theorem take_snoc' {α : Type} {l : List α} {k : Nat} {x : α} (h : l[k]? = some x) : l.take (k + 1) = l.take k ++ [x] := by
  obtain ⟨hk, rfl⟩ := List.getElem?_eq_some_iff.1 h
  exact List.take_succ_eq_append_getElem hk
theorem get_some {α : Type} {l : List α} {k n : Nat} (hn : l.length = n) (h : k < n) : ∃ x, l[k]? = some x := ⟨l[k]'(by omega), List.getElem?_eq_getElem (by omega)⟩
theorem RowsAt.part {α : Type} {E : Laid α} {w : World} {A : Option Addr} {xs : List α} (h : RowsAt E w A xs) (i : Nat) : RowsAt E w A (xs.take i) := by
  cases A with
  | none =>
    have h0 : xs = [] := by
      cases xs with
      | nil => rfl
      | cons x xs => obtain ⟨b, off, e, _⟩ := h.get (i := 0) rfl; cases e
    subst h0
    rw [List.take_nil]
    exact RowsAt.nil _ _
  | some a =>
    cases xs with
    | nil =>
      rw [List.take_nil]
      exact RowsAt.nil _ _
    | cons x xs =>
      obtain ⟨b, off, e, _⟩ := h.get (i := 0) rfl
      cases e
      exact h.take i
structure TpM where
  A1 : Option Addr
  n1 : Nat
  c1 : Nat
  A2 : Option Addr
  n2 : Nat
  c2 : Nat
  A3 : Option Addr
  n3 : Nat
  c3 : Nat
  A4 : Option Addr
  n4 : Nat
  c4 : Nat
  rs : List (Rt × Option Addr × Nat)
def TpM.cells (m : TpM) : Array Value := #[.slice m.A1 m.n1 m.c1, .slice m.A2 m.n2 m.c2, .slice m.A3 m.n3 m.c3, .slice m.A4 m.n4 m.c4]
def TpM.v (m : TpM) : TpV := ⟨m.A1, m.c1, m.A2, m.c2, m.A3, m.c3, m.A4, m.c4, m.rs⟩
/-- A track lies there, with at most a hundred of each sort. -/
structure TpIs (w : World) (t : Tp) (m : TpM) : Prop where
  lies : TpAt w t m.A1 m.A2 m.A3 m.A4 m.rs
  e1 : t.edges.length = m.n1
  e2 : t.joints.length = m.n2
  e3 : t.bals.length = m.n3
  e4 : t.routes.length = m.n4
  l1 : m.n1 ≤ 100
  l2 : m.n2 ≤ 100
  l3 : m.n3 ≤ 100
  l4 : m.n4 ≤ 100
  l5 : ∀ r ∈ t.routes, r.path.length ≤ 100
  q1 : m.n1 ≤ m.c1
  q2 : m.n2 ≤ m.c2
  q3 : m.n3 ≤ m.c3
  q4 : m.n4 ≤ m.c4
  q5 : ∀ p ∈ m.rs, p.1.path.length ≤ p.2.2
theorem TpIs.below {w w' : World} {t : Tp} {m : TpM} (h : TpIs w t m) (hb : Below w.heap.size w w') : TpIs w' t m :=
  { h with lies := h.lies.below hb }
theorem TpIs.cells {w : World} {t : Tp} {m : TpM} (h : TpIs w t m) : m.v.cells t = m.cells := by
  unfold TpV.cells TpM.cells TpM.v
  rw [h.e1, h.e2, h.e3, h.e4]
section
variable {w : World} {t : Tp} {m : TpM}
theorem there_m (h : TpIs w t m) (e : Int) (W : World) : Calls Tryz.prog 116 #[.agg m.cells, .int .i64 e] W fun r w' => r = .returned (.bool (thereT t e)) ∧ Below W.heap.size W w' := by
  rw [← h.cells]
  exact tothere_k t m.v e W
theorem joins_m (h : TpIs w t m) (a b : En) : Calls Tryz.prog 115 #[.agg m.cells, enV a, enV b] w fun r w' => r = .returned (.bool (joinsT t.joints a b)) ∧ Below w.heap.size w w' := by
  rw [← h.cells]
  exact tojoins_k t m.v a b w h.lies.joints (by have := h.l2; rw [h.e2]; omega)
theorem may_m (h : TpIs w t m) (a b : St) : Calls Tryz.prog 215 #[.agg m.cells, stV a, stV b] w fun r w' => r = .returned (.bool (mayT t a b)) ∧ Below w.heap.size w w' := by
  rw [← h.cells]
  exact tomay_k t m.v a b w h.lies.joints (by have := h.l2; rw [h.e2]; omega)
theorem end_m (h : TpIs w t m) (x : En) (W : World) : Calls Tryz.prog 114 #[.agg m.cells, enV x] W fun r w' => r = .returned (.bool (endT t x)) ∧ Below W.heap.size W w' := by
  rw [← h.cells]
  exact toend_k t m.v x W
theorem bal_m (h : TpIs w t m) (id : Int) : Calls Tryz.prog 37 #[.agg m.cells, .int .i64 id] w fun r w' => r = .returned (.tuple #[blV ((balT t id).getD ⟨0, 0, 0⟩), .bool (balT t id).isSome]) ∧ Below w.heap.size w w' := by
  rw [← h.cells]
  exact tobal_k t m.v id w h.lies.bals (by have := h.l3; rw [h.e3]; omega)
end
end Go.Proofs.YtpjdcpicfkdioaaGreatDoor
/- The library's IndexFunc, ContainsFunc and Clone at the track's rows. -/
namespace Go.Proofs.YtpjdcpicfkdioaaGreatDoor
open Go.RowKit Go.Shelf
def laysIdxRt_ren : Go.Shelf.Ren := ⟨fun | 6 => 128 | n => n, fun | 22 => 25 | 23 => 100 | 25 => 201 | 3 => 3 | 0 => 0 | 4 => 4 | n => n, fun | n => n⟩
theorem laysIdxRt : Go.Proofs.SlLaysH0.n6 Tryz.prog laysIdxRt_ren where
  mixed := by kernel_rfl
  f6 := ⟨"slices.IndexFunc[[]lineside/api.Route,lineside/api.Route]", by decide, Tryz.func128.trans (congrArg some (by kernel_rfl))⟩
  t0 := Tryz.underlying0
  a0 := Tryz.isAgg0
  z0 := Tryz.sizeOf0
  v0 := Tryz.zeroValue0
  t3 := Tryz.underlying3
  a3 := Tryz.isAgg3
  z3 := Tryz.sizeOf3
  v3 := Tryz.zeroValue3
  t4 := Tryz.underlying4
  a4 := Tryz.isAgg4
  z4 := Tryz.sizeOf4
  v4 := Tryz.zeroValue4
  t22 := Tryz.underlying25
  a22 := Tryz.isAgg25
  z22 := Tryz.sizeOf25
  v22 := Tryz.zeroValue25
  t25 := Tryz.underlying201
  a25 := Tryz.isAgg201
  z25 := Tryz.sizeOf201
  v25 := Tryz.zeroValue201
def laysIdxSt_ren : Go.Shelf.Ren := ⟨fun | 6 => 53 | n => n, fun | 22 => 39 | 23 => 98 | 25 => 129 | 3 => 3 | 0 => 0 | 4 => 4 | n => n, fun | n => n⟩
theorem laysIdxSt : Go.Proofs.SlLaysH0.n6 Tryz.prog laysIdxSt_ren where
  mixed := by kernel_rfl
  f6 := ⟨"slices.IndexFunc[[]lineside/api.Step,lineside/api.Step]", by decide, Tryz.func53.trans (congrArg some (by kernel_rfl))⟩
  t0 := Tryz.underlying0
  a0 := Tryz.isAgg0
  z0 := Tryz.sizeOf0
  v0 := Tryz.zeroValue0
  t3 := Tryz.underlying3
  a3 := Tryz.isAgg3
  z3 := Tryz.sizeOf3
  v3 := Tryz.zeroValue3
  t4 := Tryz.underlying4
  a4 := Tryz.isAgg4
  z4 := Tryz.sizeOf4
  v4 := Tryz.zeroValue4
  t22 := Tryz.underlying39
  a22 := Tryz.isAgg39
  z22 := Tryz.sizeOf39
  v22 := Tryz.zeroValue39
  t25 := Tryz.underlying129
  a25 := Tryz.isAgg129
  z25 := Tryz.sizeOf129
  v25 := Tryz.zeroValue129
def laysAnySt_ren : Go.Shelf.Ren := ⟨fun | 8 => 124 | 6 => 53 | n => n, fun | 22 => 39 | 23 => 98 | 25 => 129 | 4 => 4 | 3 => 3 | 0 => 0 | n => n, fun | n => n⟩
theorem laysAnySt : Go.Proofs.SlLaysH0.n8 Tryz.prog laysAnySt_ren where
  mixed := by kernel_rfl
  f6 := ⟨"slices.IndexFunc[[]lineside/api.Step,lineside/api.Step]", by decide, Tryz.func53.trans (congrArg some (by kernel_rfl))⟩
  f8 := ⟨"slices.ContainsFunc[[]lineside/api.Step,lineside/api.Step]", by decide, Tryz.func124.trans (congrArg some (by kernel_rfl))⟩
  t0 := Tryz.underlying0
  a0 := Tryz.isAgg0
  z0 := Tryz.sizeOf0
  v0 := Tryz.zeroValue0
  t3 := Tryz.underlying3
  a3 := Tryz.isAgg3
  z3 := Tryz.sizeOf3
  v3 := Tryz.zeroValue3
  t4 := Tryz.underlying4
  a4 := Tryz.isAgg4
  z4 := Tryz.sizeOf4
  v4 := Tryz.zeroValue4
  t22 := Tryz.underlying39
  a22 := Tryz.isAgg39
  z22 := Tryz.sizeOf39
  v22 := Tryz.zeroValue39
  t25 := Tryz.underlying129
  a25 := Tryz.isAgg129
  z25 := Tryz.sizeOf129
  v25 := Tryz.zeroValue129
def laysAnyBl_ren : Go.Shelf.Ren := ⟨fun | 8 => 176 | 6 => 80 | n => n, fun | 22 => 24 | 23 => 96 | 25 => 160 | 4 => 4 | 3 => 3 | 0 => 0 | n => n, fun | n => n⟩
theorem laysAnyBl : Go.Proofs.SlLaysH0.n8 Tryz.prog laysAnyBl_ren where
  mixed := by kernel_rfl
  f6 := ⟨"slices.IndexFunc[[]lineside/api.Bal,lineside/api.Bal]", by decide, Tryz.func80.trans (congrArg some (by kernel_rfl))⟩
  f8 := ⟨"slices.ContainsFunc[[]lineside/api.Bal,lineside/api.Bal]", by decide, Tryz.func176.trans (congrArg some (by kernel_rfl))⟩
  t0 := Tryz.underlying0
  a0 := Tryz.isAgg0
  z0 := Tryz.sizeOf0
  v0 := Tryz.zeroValue0
  t3 := Tryz.underlying3
  a3 := Tryz.isAgg3
  z3 := Tryz.sizeOf3
  v3 := Tryz.zeroValue3
  t4 := Tryz.underlying4
  a4 := Tryz.isAgg4
  z4 := Tryz.sizeOf4
  v4 := Tryz.zeroValue4
  t22 := Tryz.underlying24
  a22 := Tryz.isAgg24
  z22 := Tryz.sizeOf24
  v22 := Tryz.zeroValue24
  t25 := Tryz.underlying160
  a25 := Tryz.isAgg160
  z25 := Tryz.sizeOf160
  v25 := Tryz.zeroValue160
def laysAnyI_ren : Go.Shelf.Ren := ⟨fun | 8 => 108 | 6 => 163 | n => n, fun | 22 => 22 | 23 => 3 | 25 => 158 | 4 => 4 | 3 => 3 | 0 => 0 | n => n, fun | n => n⟩
theorem laysAnyI : Go.Proofs.SlLaysH.n8 Tryz.prog laysAnyI_ren where
  mixed := by kernel_rfl
  f6 := ⟨"slices.IndexFunc[[]int,int]", by decide, Tryz.func163.trans (congrArg some (by kernel_rfl))⟩
  f8 := ⟨"slices.ContainsFunc[[]int,int]", by decide, Tryz.func108.trans (congrArg some (by kernel_rfl))⟩
  t0 := Tryz.underlying0
  a0 := Tryz.isAgg0
  z0 := Tryz.sizeOf0
  v0 := Tryz.zeroValue0
  t3 := Tryz.underlying3
  a3 := Tryz.isAgg3
  z3 := Tryz.sizeOf3
  v3 := Tryz.zeroValue3
  t4 := Tryz.underlying4
  a4 := Tryz.isAgg4
  z4 := Tryz.sizeOf4
  v4 := Tryz.zeroValue4
  t22 := Tryz.underlying22
  a22 := Tryz.isAgg22
  z22 := Tryz.sizeOf22
  v22 := Tryz.zeroValue22
  a23 := Tryz.isAgg3
  z23 := Tryz.sizeOf3
  t25 := Tryz.underlying158
  a25 := Tryz.isAgg158
  z25 := Tryz.sizeOf158
  v25 := Tryz.zeroValue158
instance : Inhabited (Rt × Option Addr × Nat) := ⟨(⟨0, [], 0, 0⟩, none, 0)⟩
instance : Inhabited St := ⟨⟨0, false⟩⟩
instance : Inhabited Sc := ⟨⟨0, 0⟩⟩
instance : Inhabited Sp := ⟨⟨0, 0, 0⟩⟩
theorem row_of {P : Program} {α : Type} {E : Laid α} {ts t : TypeId} {bytes : Nat} (z : Value) (hu : P.underlying ts = some (.slice t)) (h : ((P.info? t).map fun i => (i.zero, i.size, i.bytes)) = some (some z, E.k, bytes)) (hz : z.cells.size = E.k) : RowType P E ts t bytes := by
  refine ⟨hu, ?_⟩
  cases hi : P.info? t with
  | none => rw [hi] at h; cases h
  | some i =>
    rw [hi] at h
    simp only [Option.map_some, Option.some.injEq, Prod.mk.injEq] at h
    exact ⟨i, z, rfl, h.1, h.2.1, h.2.2, hz⟩
theorem rowSt : RowType Tryz.prog encSt 39 98 16 := row_of (.agg #[.int .i64 0, .bool false]) Tryz.underlying39 (by kernel_rfl) rfl
theorem rowSc : RowType Tryz.prog encSc 40 80 16 := row_of (.agg #[.int .i64 0, .int .i64 0]) Tryz.underlying40 (by kernel_rfl) rfl
theorem rowSp : RowType Tryz.prog encSp 54 83 24 := row_of (.agg #[.int .i64 0, .int .i64 0, .int .i64 0]) Tryz.underlying54 (by kernel_rfl) rfl
theorem rowI : RowType Tryz.prog encI 22 3 8 := row_of (.int .i64 0) Tryz.underlying22 (by kernel_rfl) rfl
theorem idxRt_k (g : Nat) (eg : ∀ args w, (callFunc g args).run Tryz.prog w = .ok (.enter g args) w) (lb : Array Value) (q : (Rt × Option Addr × Nat) → Bool) (A : Option Addr) (n c : Nat) (xs : List (Rt × Option Addr × Nat)) (w : World) (hp : PredBelow Tryz.prog g lb (fun x => .agg (encRt.enc x).toArray) q w) (hR : RowsAt encRt w A xs) (hn : xs.length = n) (hb : n ≤ 9223372036854775807) :
    Calls Tryz.prog 128 #[.slice A n c, .func (.func g) #[] lb] w fun e w' => e = .returned (.int .i64 (Lib.idxBy (fun _ y => q y) xs default)) ∧ Below w.heap.size w w' := by
  cases n with
  | zero =>
    have : xs = [] := List.length_eq_zero_iff.1 hn
    subst this
    go_enter Tryz.func128, Tryz.ntmps128
    go_wp2
    go_loopg [5, 8] 0 (fun _ _ s8 wr => s8 = .int .i64 0 ∧ Below w.heap.size w wr)
    case atStart => exact ⟨rfl, Below.refl _ _⟩
    case round =>
      obtain ⟨rfl, hw⟩ := hrel
      go_wp2
      go_ret
      exact ⟨rfl, hw⟩
  | succ n =>
    obtain ⟨b, off, rfl, hbs, _⟩ := hR.get (List.getElem?_eq_getElem (show 0 < xs.length by omega))
    have := AnyQ.slices_IndexFunc laysIdxRt 4 Tryz.isAgg100 Tryz.sizeOf100 encRt.enc encRt.len q g lb eg b off (n + 1) c xs w hp (by omega) hb hbs ?_
    · rw [← hn, List.take_length] at this
      rw [← hn]
      exact this
    · intro j hj i u hi
      obtain ⟨b', off', e, _, hc⟩ := hR.get (List.getElem?_eq_getElem hj)
      simp only [Option.some.injEq, Addr.mk.injEq] at e
      obtain ⟨rfl, rfl, -⟩ := e
      rw [getElem!_pos xs j hj] at hi
      exact hc i u hi
theorem idxSt_k (g : Nat) (eg : ∀ args w, (callFunc g args).run Tryz.prog w = .ok (.enter g args) w) (lb : Array Value) (q : St → Bool) (A : Option Addr) (n c : Nat) (xs : List St) (w : World) (hp : PredBelow Tryz.prog g lb (fun x => .agg (encSt.enc x).toArray) q w) (hR : RowsAt encSt w A xs) (hn : xs.length = n) (hb : n ≤ 9223372036854775807) :
    Calls Tryz.prog 53 #[.slice A n c, .func (.func g) #[] lb] w fun e w' => e = .returned (.int .i64 (Lib.idxBy (fun _ y => q y) xs default)) ∧ Below w.heap.size w w' := by
  cases n with
  | zero =>
    have : xs = [] := List.length_eq_zero_iff.1 hn
    subst this
    go_enter Tryz.func53, Tryz.ntmps53
    go_wp2
    go_loopg [5, 8] 0 (fun _ _ s8 wr => s8 = .int .i64 0 ∧ Below w.heap.size w wr)
    case atStart => exact ⟨rfl, Below.refl _ _⟩
    case round =>
      obtain ⟨rfl, hw⟩ := hrel
      go_wp2
      go_ret
      exact ⟨rfl, hw⟩
  | succ n =>
    obtain ⟨b, off, rfl, hbs, _⟩ := hR.get (List.getElem?_eq_getElem (show 0 < xs.length by omega))
    have := AnyQ.slices_IndexFunc laysIdxSt 2 Tryz.isAgg98 Tryz.sizeOf98 encSt.enc encSt.len q g lb eg b off (n + 1) c xs w hp (by omega) hb hbs ?_
    · rw [← hn, List.take_length] at this
      rw [← hn]
      exact this
    · intro j hj i u hi
      obtain ⟨b', off', e, _, hc⟩ := hR.get (List.getElem?_eq_getElem hj)
      simp only [Option.some.injEq, Addr.mk.injEq] at e
      obtain ⟨rfl, rfl, -⟩ := e
      rw [getElem!_pos xs j hj] at hi
      exact hc i u hi
theorem idxBl_g (g : Nat) (eg : ∀ args w, (callFunc g args).run Tryz.prog w = .ok (.enter g args) w) (lb : Array Value) (q : Bl → Bool) (A : Option Addr) (n c : Nat) (xs : List Bl) (w : World) (hp : PredBelow Tryz.prog g lb (fun x => .agg (encBl.enc x).toArray) q w) (hR : RowsAt encBl w A xs) (hn : xs.length = n) (hb : n ≤ 9223372036854775807) :
    Calls Tryz.prog 80 #[.slice A n c, .func (.func g) #[] lb] w fun e w' => e = .returned (.int .i64 (Lib.idxBy (fun _ y => q y) xs default)) ∧ Below w.heap.size w w' := by
  cases n with
  | zero =>
    have : xs = [] := List.length_eq_zero_iff.1 hn
    subst this
    go_enter Tryz.func80, Tryz.ntmps80
    go_wp2
    go_loopg [5, 8] 0 (fun _ _ s8 wr => s8 = .int .i64 0 ∧ Below w.heap.size w wr)
    case atStart => exact ⟨rfl, Below.refl _ _⟩
    case round =>
      obtain ⟨rfl, hw⟩ := hrel
      go_wp2
      go_ret
      exact ⟨rfl, hw⟩
  | succ n =>
    obtain ⟨b, off, rfl, hbs, _⟩ := hR.get (List.getElem?_eq_getElem (show 0 < xs.length by omega))
    have := AnyQ.slices_IndexFunc laysIdxBl 3 Tryz.isAgg96 Tryz.sizeOf96 encBl.enc encBl.len q g lb eg b off (n + 1) c xs w hp (by omega) hb hbs ?_
    · rw [← hn, List.take_length] at this
      rw [← hn]
      exact this
    · intro j hj i u hi
      obtain ⟨b', off', e, _, hc⟩ := hR.get (List.getElem?_eq_getElem hj)
      simp only [Option.some.injEq, Addr.mk.injEq] at e
      obtain ⟨rfl, rfl, -⟩ := e
      rw [getElem!_pos xs j hj] at hi
      exact hc i u hi
theorem anySt_k (g : Nat) (eg : ∀ args w, (callFunc g args).run Tryz.prog w = .ok (.enter g args) w) (lb : Array Value) (q : St → Bool) (A : Option Addr) (n c : Nat) (xs : List St) (w : World) (hp : PredBelow Tryz.prog g lb (fun x => .agg (encSt.enc x).toArray) q w) (hR : RowsAt encSt w A xs) (hn : xs.length = n) (hb : n ≤ 9223372036854775807) :
    Calls Tryz.prog 124 #[.slice A n c, .func (.func g) #[] lb] w fun e w' => e = .returned (.bool (xs.any q)) ∧ Below w.heap.size w w' := by
  cases n with
  | zero =>
    have : xs = [] := List.length_eq_zero_iff.1 hn
    subst this
    have h0 := fun W => idxSt_k g eg lb q A 0 c [] W
    go_enter Tryz.func124, Tryz.ntmps124
    go_wp2_with (first
      | (go_at_call 53; (refine (idxSt_k g eg lb q A 0 c [] _ hp hR rfl (by omega)).mono ?_); rintro e w1 ⟨rfl, hb1⟩))
    go_ret
    exact ⟨by simp [Lib.idxBy, Lib.idxByFrom], hb1⟩
  | succ n =>
    obtain ⟨b, off, rfl, hbs, _⟩ := hR.get (List.getElem?_eq_getElem (show 0 < xs.length by omega))
    have := AnyQ.slices_ContainsFunc laysAnySt 2 Tryz.isAgg98 Tryz.sizeOf98 encSt.enc encSt.len q g lb eg b off (n + 1) c xs w hp (by omega) hb hbs ?_
    · rw [← hn, List.take_length] at this
      rw [← hn]
      exact this
    · intro j hj i u hi
      obtain ⟨b', off', e, _, hc⟩ := hR.get (List.getElem?_eq_getElem hj)
      simp only [Option.some.injEq, Addr.mk.injEq] at e
      obtain ⟨rfl, rfl, -⟩ := e
      rw [getElem!_pos xs j hj] at hi
      exact hc i u hi
theorem anyBl_k (g : Nat) (eg : ∀ args w, (callFunc g args).run Tryz.prog w = .ok (.enter g args) w) (lb : Array Value) (q : Bl → Bool) (A : Option Addr) (n c : Nat) (xs : List Bl) (w : World) (hp : PredBelow Tryz.prog g lb (fun x => .agg (encBl.enc x).toArray) q w) (hR : RowsAt encBl w A xs) (hn : xs.length = n) (hb : n ≤ 9223372036854775807) :
    Calls Tryz.prog 176 #[.slice A n c, .func (.func g) #[] lb] w fun e w' => e = .returned (.bool (xs.any q)) ∧ Below w.heap.size w w' := by
  cases n with
  | zero =>
    have : xs = [] := List.length_eq_zero_iff.1 hn
    subst this
    have h0 := fun W => idxBl_g g eg lb q A 0 c [] W
    go_enter Tryz.func176, Tryz.ntmps176
    go_wp2_with (first
      | (go_at_call 80; (refine (idxBl_g g eg lb q A 0 c [] _ hp hR rfl (by omega)).mono ?_); rintro e w1 ⟨rfl, hb1⟩))
    go_ret
    exact ⟨by simp [Lib.idxBy, Lib.idxByFrom], hb1⟩
  | succ n =>
    obtain ⟨b, off, rfl, hbs, _⟩ := hR.get (List.getElem?_eq_getElem (show 0 < xs.length by omega))
    have := AnyQ.slices_ContainsFunc laysAnyBl 3 Tryz.isAgg96 Tryz.sizeOf96 encBl.enc encBl.len q g lb eg b off (n + 1) c xs w hp (by omega) hb hbs ?_
    · rw [← hn, List.take_length] at this
      rw [← hn]
      exact this
    · intro j hj i u hi
      obtain ⟨b', off', e, _, hc⟩ := hR.get (List.getElem?_eq_getElem hj)
      simp only [Option.some.injEq, Addr.mk.injEq] at e
      obtain ⟨rfl, rfl, -⟩ := e
      rw [getElem!_pos xs j hj] at hi
      exact hc i u hi
theorem anyI_k (g : Nat) (eg : ∀ args w, (callFunc g args).run Tryz.prog w = .ok (.enter g args) w) (lb : Array Value) (q : Int → Bool) (A : Option Addr) (n c : Nat) (xs : List Int) (w : World) (hp : PredAt Tryz.prog g lb (Value.int .i64) q w) (hR : RowsAt encI w A xs) (hn : xs.length = n) (hb : n ≤ 9223372036854775807) :
    Calls Tryz.prog 108 #[.slice A n c, .func (.func g) #[] lb] w fun e w' => e = .returned (.bool (xs.any q)) ∧ Below w.heap.size w w' := by
  cases n with
  | zero =>
    have : xs = [] := List.length_eq_zero_iff.1 hn
    subst this
    exact (AnyE.slices_ContainsFunc_empty laysAnyI A c _ w).mono fun e w' ⟨h1, h2⟩ => ⟨h1, h2 ▸ Below.refl _ _⟩
  | succ n =>
    obtain ⟨b, off, rfl, hbs, _⟩ := hR.get (List.getElem?_eq_getElem (show 0 < xs.length by omega))
    have := AnyE.slices_ContainsFunc laysAnyI (Value.int .i64) q g lb eg b off (n + 1) c xs w hp (by omega) hb ?_
    · rw [← hn, List.take_length] at this
      rw [← hn]
      exact this.mono fun e w' ⟨h1, m, h2⟩ => ⟨h1, h2 ▸ below_drewN' (Below.refl _ w) m⟩
    · intro j hj
      obtain ⟨b', off', e, _, hc⟩ := hR.int hj
      simp only [Option.some.injEq, Addr.mk.injEq] at e
      obtain ⟨rfl, rfl, -⟩ := e
      exact hc
theorem clSt_k (A : Option Addr) (n c : Nat) (xs : List St) (w : World) (hR : RowsAt encSt w A xs) (hn : xs.length = n) (hl : n ≤ 65536) :
    Calls Tryz.prog 41 #[.slice A n c] w fun e w' => ∃ A' c', e = .returned (.slice A' n c') ∧ OwnRows encSt 98 w' w.heap.size A' c' xs ∧ Below w.heap.size w w' := by
  have q27 : ∀ (W : World) (a : Option Addr) (n c n' c' : Nat), (binOp .eql 39 (.slice a n c) (.slice none n' c')).run Tryz.prog W = .ok (.bool a.isNone) W := fun W a n c n' c' => Lib.run_eql_slice_nil W _ _ a n c n' c' Tryz.underlying39
  cases A with
  | none =>
    have h0 : xs = [] := by
      cases xs with
      | nil => rfl
      | cons x xs => obtain ⟨b, off, e, _⟩ := hR.get (i := 0) rfl; cases e
    subst h0
    go_enter Tryz.func41, Tryz.ntmps41
    go_wp2
    go_ret
    exact ⟨none, 0, by rw [← hn]; rfl, OwnRows.nil _ _, Below.refl _ _⟩
  | some ad =>
    have hO : OwnRows encSt 98 (w.alloc (.cells #[] 98)) w.heap.size (some ⟨w.heap.size, 0, none⟩) 0 ([] : List St) := ⟨by simp [Laid.flat], .inr ⟨w.heap.size, 0, #[], rfl, Nat.le_refl _, Blk.new _ _ _, Nat.le_refl _, Nat.zero_le _, rfl, rfl⟩⟩
    have hb0 : Below w.heap.size w (w.alloc (.cells #[] 98)) := (Below.refl _ _).alloc (Nat.le_refl _) _
    have hn' := Lib.hid hn
    clear hn
    go_enter Tryz.func41, Tryz.ntmps41
    go_wp2_with (at_builtin; refine wpList_app_rows rowSt rfl _ _ rfl w.heap.size (some ⟨w.heap.size, 0, none⟩) 0 [] 0 rfl rfl hO (some ad) c xs n rfl hn'.out (hR.alloc _) (by omega) (by decide) (by simp) ?_; intro A2 c2 W2 ho2 hgr2 hat2)
    go_ret
    simp only [List.nil_append] at ho2
    refine ⟨A2, c2, by simp, ho2, hb0.grown hgr2 hb0.size ?_⟩
    intro k hk
    simp at hk
    omega
theorem clSc_k (A : Option Addr) (n c : Nat) (xs : List Sc) (w : World) (hR : RowsAt encSc w A xs) (hn : xs.length = n) (hl : n ≤ 65536) :
    Calls Tryz.prog 42 #[.slice A n c] w fun e w' => ∃ A' c', e = .returned (.slice A' n c') ∧ OwnRows encSc 80 w' w.heap.size A' c' xs ∧ Below w.heap.size w w' := by
  have q27 : ∀ (W : World) (a : Option Addr) (n c n' c' : Nat), (binOp .eql 40 (.slice a n c) (.slice none n' c')).run Tryz.prog W = .ok (.bool a.isNone) W := fun W a n c n' c' => Lib.run_eql_slice_nil W _ _ a n c n' c' Tryz.underlying40
  cases A with
  | none =>
    have h0 : xs = [] := by
      cases xs with
      | nil => rfl
      | cons x xs => obtain ⟨b, off, e, _⟩ := hR.get (i := 0) rfl; cases e
    subst h0
    go_enter Tryz.func42, Tryz.ntmps42
    go_wp2
    go_ret
    exact ⟨none, 0, by rw [← hn]; rfl, OwnRows.nil _ _, Below.refl _ _⟩
  | some ad =>
    have hO : OwnRows encSc 80 (w.alloc (.cells #[] 80)) w.heap.size (some ⟨w.heap.size, 0, none⟩) 0 ([] : List Sc) := ⟨by simp [Laid.flat], .inr ⟨w.heap.size, 0, #[], rfl, Nat.le_refl _, Blk.new _ _ _, Nat.le_refl _, Nat.zero_le _, rfl, rfl⟩⟩
    have hb0 : Below w.heap.size w (w.alloc (.cells #[] 80)) := (Below.refl _ _).alloc (Nat.le_refl _) _
    have hn' := Lib.hid hn
    clear hn
    go_enter Tryz.func42, Tryz.ntmps42
    go_wp2_with (at_builtin; refine wpList_app_rows rowSc rfl _ _ rfl w.heap.size (some ⟨w.heap.size, 0, none⟩) 0 [] 0 rfl rfl hO (some ad) c xs n rfl hn'.out (hR.alloc _) (by omega) (by decide) (by simp) ?_; intro A2 c2 W2 ho2 hgr2 hat2)
    go_ret
    simp only [List.nil_append] at ho2
    refine ⟨A2, c2, by simp, ho2, hb0.grown hgr2 hb0.size ?_⟩
    intro k hk
    simp at hk
    omega
theorem clI_k (A : Option Addr) (n c : Nat) (xs : List Int) (w : World) (hR : RowsAt encI w A xs) (hn : xs.length = n) (hl : n ≤ 65536) :
    Calls Tryz.prog 43 #[.slice A n c] w fun e w' => ∃ A' c', e = .returned (.slice A' n c') ∧ OwnRows encI 3 w' w.heap.size A' c' xs ∧ Below w.heap.size w w' := by
  have q27 : ∀ (W : World) (a : Option Addr) (n c n' c' : Nat), (binOp .eql 22 (.slice a n c) (.slice none n' c')).run Tryz.prog W = .ok (.bool a.isNone) W := fun W a n c n' c' => Lib.run_eql_slice_nil W _ _ a n c n' c' Tryz.underlying22
  cases A with
  | none =>
    have h0 : xs = [] := by
      cases xs with
      | nil => rfl
      | cons x xs => obtain ⟨b, off, e, _⟩ := hR.get (i := 0) rfl; cases e
    subst h0
    go_enter Tryz.func43, Tryz.ntmps43
    go_wp2
    go_ret
    exact ⟨none, 0, by rw [← hn]; rfl, OwnRows.nil _ _, Below.refl _ _⟩
  | some ad =>
    have hO : OwnRows encI 3 (w.alloc (.cells #[] 3)) w.heap.size (some ⟨w.heap.size, 0, none⟩) 0 ([] : List Int) := ⟨by simp [Laid.flat], .inr ⟨w.heap.size, 0, #[], rfl, Nat.le_refl _, Blk.new _ _ _, Nat.le_refl _, Nat.zero_le _, rfl, rfl⟩⟩
    have hb0 : Below w.heap.size w (w.alloc (.cells #[] 3)) := (Below.refl _ _).alloc (Nat.le_refl _) _
    have hn' := Lib.hid hn
    clear hn
    go_enter Tryz.func43, Tryz.ntmps43
    go_wp2_with (at_builtin; refine wpList_app_rows rowI rfl _ _ rfl w.heap.size (some ⟨w.heap.size, 0, none⟩) 0 [] 0 rfl rfl hO (some ad) c xs n rfl hn'.out (hR.alloc _) (by omega) (by decide) (by simp) ?_; intro A2 c2 W2 ho2 hgr2 hat2)
    go_ret
    simp only [List.nil_append] at ho2
    refine ⟨A2, c2, by simp, ho2, hb0.grown hgr2 hb0.size ?_⟩
    intro k hk
    simp at hk
    omega
theorem clSp_k (A : Option Addr) (n c : Nat) (xs : List Sp) (w : World) (hR : RowsAt encSp w A xs) (hn : xs.length = n) (hl : n ≤ 65536) :
    Calls Tryz.prog 61 #[.slice A n c] w fun e w' => ∃ A' c', e = .returned (.slice A' n c') ∧ OwnRows encSp 83 w' w.heap.size A' c' xs ∧ Below w.heap.size w w' := by
  have q27 : ∀ (W : World) (a : Option Addr) (n c n' c' : Nat), (binOp .eql 54 (.slice a n c) (.slice none n' c')).run Tryz.prog W = .ok (.bool a.isNone) W := fun W a n c n' c' => Lib.run_eql_slice_nil W _ _ a n c n' c' Tryz.underlying54
  cases A with
  | none =>
    have h0 : xs = [] := by
      cases xs with
      | nil => rfl
      | cons x xs => obtain ⟨b, off, e, _⟩ := hR.get (i := 0) rfl; cases e
    subst h0
    go_enter Tryz.func61, Tryz.ntmps61
    go_wp2
    go_ret
    exact ⟨none, 0, by rw [← hn]; rfl, OwnRows.nil _ _, Below.refl _ _⟩
  | some ad =>
    have hO : OwnRows encSp 83 (w.alloc (.cells #[] 83)) w.heap.size (some ⟨w.heap.size, 0, none⟩) 0 ([] : List Sp) := ⟨by simp [Laid.flat], .inr ⟨w.heap.size, 0, #[], rfl, Nat.le_refl _, Blk.new _ _ _, Nat.le_refl _, Nat.zero_le _, rfl, rfl⟩⟩
    have hb0 : Below w.heap.size w (w.alloc (.cells #[] 83)) := (Below.refl _ _).alloc (Nat.le_refl _) _
    have hn' := Lib.hid hn
    clear hn
    go_enter Tryz.func61, Tryz.ntmps61
    go_wp2_with (at_builtin; refine wpList_app_rows rowSp rfl _ _ rfl w.heap.size (some ⟨w.heap.size, 0, none⟩) 0 [] 0 rfl rfl hO (some ad) c xs n rfl hn'.out (hR.alloc _) (by omega) (by decide) (by simp) ?_; intro A2 c2 W2 ho2 hgr2 hat2)
    go_ret
    simp only [List.nil_append] at ho2
    refine ⟨A2, c2, by simp, ho2, hb0.grown hgr2 hb0.size ?_⟩
    intro k hk
    simp at hk
    omega
end Go.Proofs.YtpjdcpicfkdioaaGreatDoor
