/- Texts in one: ShelfA Total NormPlain. -/
import Derived.Test.YtkaggddmhjifjaaGreatDoorK03
import Derived.Shelf.SlicesE.IndexFunc
import Derived.WalkSpells
import Derived.Test.YtkaggddmhjifjaaGreatDoorK02
set_option linter.unusedSimpArgs false
set_option linter.unusedVariables false
namespace Go.Proofs.YtkaggddmhjifjaaGreatDoor
open Go.RowKit Go.Shelf
def laysIdxRt_ren : Go.Shelf.Ren := ⟨fun | 6 => 135 | n => n, fun | 22 => 25 | 23 => 97 | 25 => 182 | 3 => 3 | 0 => 0 | 4 => 4 | n => n, fun | n => n⟩
theorem laysIdxRt : Go.Proofs.SlLaysH0.n6 Tryz.prog laysIdxRt_ren where
 mixed := by kernel_rfl
 f6 := ⟨ "slices.IndexFunc[[]lineside/api.Route,lineside/api.Route]", by decide, Tryz.func135.trans (congrArg some (by kernel_rfl))⟩
 t0 := Tryz.underlying0
 a0 := Tryz.isAgg0
 z0 := Tryz.sizeOf0
 v0 := Tryz.zeroValue0
 t3 := Tryz.underlying3
 a3 := Tryz.isAgg3
 z3 := Tryz.sizeOf3
 v3 := Tryz.zeroValue3
 t4 := Tryz.underlying4
 a4 := Tryz.isAgg4
 z4 := Tryz.sizeOf4
 v4 := Tryz.zeroValue4
 t22 := Tryz.underlying25
 a22 := Tryz.isAgg25
 z22 := Tryz.sizeOf25
 v22 := Tryz.zeroValue25
 t25 := Tryz.underlying182
 a25 := Tryz.isAgg182
 z25 := Tryz.sizeOf182
 v25 := Tryz.zeroValue182
def laysIdxSt_ren : Go.Shelf.Ren := ⟨fun | 6 => 90 | n => n, fun | 22 => 39 | 23 => 95 | 25 => 157 | 3 => 3 | 0 => 0 | 4 => 4 | n => n, fun | n => n⟩
theorem laysIdxSt : Go.Proofs.SlLaysH0.n6 Tryz.prog laysIdxSt_ren where
 mixed := by kernel_rfl
 f6 := ⟨ "slices.IndexFunc[[]lineside/api.Step,lineside/api.Step]", by decide, Tryz.func90.trans (congrArg some (by kernel_rfl))⟩
 t0 := Tryz.underlying0
 a0 := Tryz.isAgg0
 z0 := Tryz.sizeOf0
 v0 := Tryz.zeroValue0
 t3 := Tryz.underlying3
 a3 := Tryz.isAgg3
 z3 := Tryz.sizeOf3
 v3 := Tryz.zeroValue3
 t4 := Tryz.underlying4
 a4 := Tryz.isAgg4
 z4 := Tryz.sizeOf4
 v4 := Tryz.zeroValue4
 t22 := Tryz.underlying39
 a22 := Tryz.isAgg39
 z22 := Tryz.sizeOf39
 v22 := Tryz.zeroValue39
 t25 := Tryz.underlying157
 a25 := Tryz.isAgg157
 z25 := Tryz.sizeOf157
 v25 := Tryz.zeroValue157
def laysAnySt_ren : Go.Shelf.Ren := ⟨fun | 8 => 131 | 6 => 90 | n => n, fun | 22 => 39 | 23 => 95 | 25 => 157 | 4 => 4 | 3 => 3 | 0 => 0 | n => n, fun | n => n⟩
theorem laysAnySt : Go.Proofs.SlLaysH0.n8 Tryz.prog laysAnySt_ren where
 mixed := by kernel_rfl
 f6 := ⟨ "slices.IndexFunc[[]lineside/api.Step,lineside/api.Step]", by decide, Tryz.func90.trans (congrArg some (by kernel_rfl))⟩
 f8 := ⟨ "slices.ContainsFunc[[]lineside/api.Step,lineside/api.Step]", by decide, Tryz.func131.trans (congrArg some (by kernel_rfl))⟩
 t0 := Tryz.underlying0
 a0 := Tryz.isAgg0
 z0 := Tryz.sizeOf0
 v0 := Tryz.zeroValue0
 t3 := Tryz.underlying3
 a3 := Tryz.isAgg3
 z3 := Tryz.sizeOf3
 v3 := Tryz.zeroValue3
 t4 := Tryz.underlying4
 a4 := Tryz.isAgg4
 z4 := Tryz.sizeOf4
 v4 := Tryz.zeroValue4
 t22 := Tryz.underlying39
 a22 := Tryz.isAgg39
 z22 := Tryz.sizeOf39
 v22 := Tryz.zeroValue39
 t25 := Tryz.underlying157
 a25 := Tryz.isAgg157
 z25 := Tryz.sizeOf157
 v25 := Tryz.zeroValue157
def laysAnyBl_ren : Go.Shelf.Ren := ⟨fun | 8 => 175 | 6 => 97 | n => n, fun | 22 => 24 | 23 => 93 | 25 => 165 | 4 => 4 | 3 => 3 | 0 => 0 | n => n, fun | n => n⟩
theorem laysAnyBl : Go.Proofs.SlLaysH0.n8 Tryz.prog laysAnyBl_ren where
 mixed := by kernel_rfl
 f6 := ⟨ "slices.IndexFunc[[]lineside/api.Bal,lineside/api.Bal]", by decide, Tryz.func97.trans (congrArg some (by kernel_rfl))⟩
 f8 := ⟨ "slices.ContainsFunc[[]lineside/api.Bal,lineside/api.Bal]", by decide, Tryz.func175.trans (congrArg some (by kernel_rfl))⟩
 t0 := Tryz.underlying0
 a0 := Tryz.isAgg0
 z0 := Tryz.sizeOf0
 v0 := Tryz.zeroValue0
 t3 := Tryz.underlying3
 a3 := Tryz.isAgg3
 z3 := Tryz.sizeOf3
 v3 := Tryz.zeroValue3
 t4 := Tryz.underlying4
 a4 := Tryz.isAgg4
 z4 := Tryz.sizeOf4
 v4 := Tryz.zeroValue4
 t22 := Tryz.underlying24
 a22 := Tryz.isAgg24
 z22 := Tryz.sizeOf24
 v22 := Tryz.zeroValue24
 t25 := Tryz.underlying165
 a25 := Tryz.isAgg165
 z25 := Tryz.sizeOf165
 v25 := Tryz.zeroValue165
def laysAnyI_ren : Go.Shelf.Ren := ⟨fun | 8 => 118 | 6 => 171 | n => n, fun | 22 => 22 | 23 => 3 | 25 => 79 | 4 => 4 | 3 => 3 | 0 => 0 | n => n, fun | n => n⟩
theorem laysAnyI : Go.Proofs.SlLaysH.n8 Tryz.prog laysAnyI_ren where
 mixed := by kernel_rfl
 f6 := ⟨ "slices.IndexFunc[[]int,int]", by decide, Tryz.func171.trans (congrArg some (by kernel_rfl))⟩
 f8 := ⟨ "slices.ContainsFunc[[]int,int]", by decide, Tryz.func118.trans (congrArg some (by kernel_rfl))⟩
 t0 := Tryz.underlying0
 a0 := Tryz.isAgg0
 z0 := Tryz.sizeOf0
 v0 := Tryz.zeroValue0
 t3 := Tryz.underlying3
 a3 := Tryz.isAgg3
 z3 := Tryz.sizeOf3
 v3 := Tryz.zeroValue3
 t4 := Tryz.underlying4
 a4 := Tryz.isAgg4
 z4 := Tryz.sizeOf4
 v4 := Tryz.zeroValue4
 t22 := Tryz.underlying22
 a22 := Tryz.isAgg22
 z22 := Tryz.sizeOf22
 v22 := Tryz.zeroValue22
 a23 := Tryz.isAgg3
 z23 := Tryz.sizeOf3
 t25 := Tryz.underlying79
 a25 := Tryz.isAgg79
 z25 := Tryz.sizeOf79
 v25 := Tryz.zeroValue79
instance : Inhabited (Rt × Option Addr × Nat) := ⟨(⟨0, [], 0, 0⟩, none, 0)⟩
instance : Inhabited St := ⟨⟨0, false⟩⟩
instance : Inhabited Sc := ⟨⟨0, 0⟩⟩
instance : Inhabited Sp := ⟨⟨0, 0, 0⟩⟩
theorem row_of {P : Program} {α : Type} {E : Laid α} {ts t : TypeId} {bytes : Nat} (z : Value) (hu : P.underlying ts = some (.slice t)) (h : ((P.info? t).map fun i => (i.zero, i.size, i.bytes)) = some (some z, E.k, bytes)) (hz : z.cells.size = E.k) : RowType P E ts t bytes := by
 refine ⟨hu, ?_⟩
 cases hi : P.info? t with
 | none => rw [hi] at h; cases h
 | some i =>
  rw [hi] at h
  simp only [Option.map_some, Option.some.injEq, Prod.mk.injEq] at h
  exact ⟨i, z, rfl, h.1, h.2.1, h.2.2, hz⟩
theorem rowSt : RowType Tryz.prog encSt 39 95 16 := row_of (.agg #[.int .i64 0, .bool false]) Tryz.underlying39 (by kernel_rfl) rfl
theorem rowSc : RowType Tryz.prog encSc 40 122 16 := row_of (.agg #[.int .i64 0, .int .i64 0]) Tryz.underlying40 (by kernel_rfl) rfl
theorem rowSp : RowType Tryz.prog encSp 53 75 24 := row_of (.agg #[.int .i64 0, .int .i64 0, .int .i64 0]) Tryz.underlying53 (by kernel_rfl) rfl
theorem rowI : RowType Tryz.prog encI 22 3 8 := row_of (.int .i64 0) Tryz.underlying22 (by kernel_rfl) rfl
theorem idxRt_k (g : Nat) (eg : ∀ args w, (callFunc g args).run Tryz.prog w = .ok (.enter g args) w) (lb : Array Value) (q : (Rt × Option Addr × Nat) → Bool) (A : Option Addr) (n c : Nat) (xs : List (Rt × Option Addr × Nat)) (w : World) (hp : PredBelow Tryz.prog g lb (fun x => .agg (encRt.enc x).toArray) q w) (hR : RowsAt encRt w A xs) (hn : xs.length = n) (hb : n ≤ 9223372036854775807) :
  Calls Tryz.prog 135 #[.slice A n c, .func (.func g) #[] lb] w fun e w' => e = .returned (.int .i64 (Lib.idxBy (fun _ y => q y) xs default)) ∧ Below w.heap.size w w' := by
 cases n with
 | zero =>
  have : xs = [] := List.length_eq_zero_iff.1 hn
  subst this
  go_enter Tryz.func135, Tryz.ntmps135
  go_wp2
  go_loopg [5, 8] 0 (fun _ _ s8 wr => s8 = .int .i64 0 ∧ Below w.heap.size w wr)
  case atStart => exact ⟨rfl, Below.refl _ _⟩
  case round =>
   obtain ⟨rfl, hw⟩ := hrel
   go_wp2
   go_ret
   exact ⟨rfl, hw⟩
 | succ n =>
  obtain ⟨b, off, rfl, hbs, _⟩ := hR.get (List.getElem?_eq_getElem (show 0 < xs.length by omega))
  have := AnyQ.slices_IndexFunc laysIdxRt 4 Tryz.isAgg97 Tryz.sizeOf97 encRt.enc encRt.len q g lb eg b off (n + 1) c xs w hp (by omega) hb hbs ?_
  ·
   rw [← hn, List.take_length] at this
   rw [← hn]
   exact this
  ·
   intro j hj i u hi
   obtain ⟨b', off', e, _, hc⟩ := hR.get (List.getElem?_eq_getElem hj)
   simp only [Option.some.injEq, Addr.mk.injEq] at e
   obtain ⟨rfl, rfl, -⟩ := e
   rw [getElem!_pos xs j hj] at hi
   exact hc i u hi
theorem idxSt_k (g : Nat) (eg : ∀ args w, (callFunc g args).run Tryz.prog w = .ok (.enter g args) w) (lb : Array Value) (q : St → Bool) (A : Option Addr) (n c : Nat) (xs : List St) (w : World) (hp : PredBelow Tryz.prog g lb (fun x => .agg (encSt.enc x).toArray) q w) (hR : RowsAt encSt w A xs) (hn : xs.length = n) (hb : n ≤ 9223372036854775807) :
  Calls Tryz.prog 90 #[.slice A n c, .func (.func g) #[] lb] w fun e w' => e = .returned (.int .i64 (Lib.idxBy (fun _ y => q y) xs default)) ∧ Below w.heap.size w w' := by
 cases n with
 | zero =>
  have : xs = [] := List.length_eq_zero_iff.1 hn
  subst this
  go_enter Tryz.func90, Tryz.ntmps90
  go_wp2
  go_loopg [5, 8] 0 (fun _ _ s8 wr => s8 = .int .i64 0 ∧ Below w.heap.size w wr)
  case atStart => exact ⟨rfl, Below.refl _ _⟩
  case round =>
   obtain ⟨rfl, hw⟩ := hrel
   go_wp2
   go_ret
   exact ⟨rfl, hw⟩
 | succ n =>
  obtain ⟨b, off, rfl, hbs, _⟩ := hR.get (List.getElem?_eq_getElem (show 0 < xs.length by omega))
  have := AnyQ.slices_IndexFunc laysIdxSt 2 Tryz.isAgg95 Tryz.sizeOf95 encSt.enc encSt.len q g lb eg b off (n + 1) c xs w hp (by omega) hb hbs ?_
  ·
   rw [← hn, List.take_length] at this
   rw [← hn]
   exact this
  ·
   intro j hj i u hi
   obtain ⟨b', off', e, _, hc⟩ := hR.get (List.getElem?_eq_getElem hj)
   simp only [Option.some.injEq, Addr.mk.injEq] at e
   obtain ⟨rfl, rfl, -⟩ := e
   rw [getElem!_pos xs j hj] at hi
   exact hc i u hi
theorem idxBl_g (g : Nat) (eg : ∀ args w, (callFunc g args).run Tryz.prog w = .ok (.enter g args) w) (lb : Array Value) (q : Bl → Bool) (A : Option Addr) (n c : Nat) (xs : List Bl) (w : World) (hp : PredBelow Tryz.prog g lb (fun x => .agg (encBl.enc x).toArray) q w) (hR : RowsAt encBl w A xs) (hn : xs.length = n) (hb : n ≤ 9223372036854775807) :
  Calls Tryz.prog 97 #[.slice A n c, .func (.func g) #[] lb] w fun e w' => e = .returned (.int .i64 (Lib.idxBy (fun _ y => q y) xs default)) ∧ Below w.heap.size w w' := by
 cases n with
 | zero =>
  have : xs = [] := List.length_eq_zero_iff.1 hn
  subst this
  go_enter Tryz.func97, Tryz.ntmps97
  go_wp2
  go_loopg [5, 8] 0 (fun _ _ s8 wr => s8 = .int .i64 0 ∧ Below w.heap.size w wr)
  case atStart => exact ⟨rfl, Below.refl _ _⟩
  case round =>
   obtain ⟨rfl, hw⟩ := hrel
   go_wp2
   go_ret
   exact ⟨rfl, hw⟩
 | succ n =>
  obtain ⟨b, off, rfl, hbs, _⟩ := hR.get (List.getElem?_eq_getElem (show 0 < xs.length by omega))
  have := AnyQ.slices_IndexFunc laysIdxBl 3 Tryz.isAgg93 Tryz.sizeOf93 encBl.enc encBl.len q g lb eg b off (n + 1) c xs w hp (by omega) hb hbs ?_
  ·
   rw [← hn, List.take_length] at this
   rw [← hn]
   exact this
  ·
   intro j hj i u hi
   obtain ⟨b', off', e, _, hc⟩ := hR.get (List.getElem?_eq_getElem hj)
   simp only [Option.some.injEq, Addr.mk.injEq] at e
   obtain ⟨rfl, rfl, -⟩ := e
   rw [getElem!_pos xs j hj] at hi
   exact hc i u hi
theorem anySt_k (g : Nat) (eg : ∀ args w, (callFunc g args).run Tryz.prog w = .ok (.enter g args) w) (lb : Array Value) (q : St → Bool) (A : Option Addr) (n c : Nat) (xs : List St) (w : World) (hp : PredBelow Tryz.prog g lb (fun x => .agg (encSt.enc x).toArray) q w) (hR : RowsAt encSt w A xs) (hn : xs.length = n) (hb : n ≤ 9223372036854775807) :
  Calls Tryz.prog 131 #[.slice A n c, .func (.func g) #[] lb] w fun e w' => e = .returned (.bool (xs.any q)) ∧ Below w.heap.size w w' := by
 cases n with
 | zero =>
  have : xs = [] := List.length_eq_zero_iff.1 hn
  subst this
  have h0 := fun W => idxSt_k g eg lb q A 0 c [] W
  go_enter Tryz.func131, Tryz.ntmps131
  go_wp2_with (first
   |(go_at_call 90; (refine (idxSt_k g eg lb q A 0 c [] _ hp hR rfl (by omega)).mono ?_); rintro e w1 ⟨rfl, hb1⟩))
  go_ret
  exact ⟨by simp [Lib.idxBy, Lib.idxByFrom], hb1⟩
 | succ n =>
  obtain ⟨b, off, rfl, hbs, _⟩ := hR.get (List.getElem?_eq_getElem (show 0 < xs.length by omega))
  have := AnyQ.slices_ContainsFunc laysAnySt 2 Tryz.isAgg95 Tryz.sizeOf95 encSt.enc encSt.len q g lb eg b off (n + 1) c xs w hp (by omega) hb hbs ?_
  ·
   rw [← hn, List.take_length] at this
   rw [← hn]
   exact this
  ·
   intro j hj i u hi
   obtain ⟨b', off', e, _, hc⟩ := hR.get (List.getElem?_eq_getElem hj)
   simp only [Option.some.injEq, Addr.mk.injEq] at e
   obtain ⟨rfl, rfl, -⟩ := e
   rw [getElem!_pos xs j hj] at hi
   exact hc i u hi
theorem anyBl_k (g : Nat) (eg : ∀ args w, (callFunc g args).run Tryz.prog w = .ok (.enter g args) w) (lb : Array Value) (q : Bl → Bool) (A : Option Addr) (n c : Nat) (xs : List Bl) (w : World) (hp : PredBelow Tryz.prog g lb (fun x => .agg (encBl.enc x).toArray) q w) (hR : RowsAt encBl w A xs) (hn : xs.length = n) (hb : n ≤ 9223372036854775807) :
  Calls Tryz.prog 175 #[.slice A n c, .func (.func g) #[] lb] w fun e w' => e = .returned (.bool (xs.any q)) ∧ Below w.heap.size w w' := by
 cases n with
 | zero =>
  have : xs = [] := List.length_eq_zero_iff.1 hn
  subst this
  have h0 := fun W => idxBl_g g eg lb q A 0 c [] W
  go_enter Tryz.func175, Tryz.ntmps175
  go_wp2_with (first
   |(go_at_call 97; (refine (idxBl_g g eg lb q A 0 c [] _ hp hR rfl (by omega)).mono ?_); rintro e w1 ⟨rfl, hb1⟩))
  go_ret
  exact ⟨by simp [Lib.idxBy, Lib.idxByFrom], hb1⟩
 | succ n =>
  obtain ⟨b, off, rfl, hbs, _⟩ := hR.get (List.getElem?_eq_getElem (show 0 < xs.length by omega))
  have := AnyQ.slices_ContainsFunc laysAnyBl 3 Tryz.isAgg93 Tryz.sizeOf93 encBl.enc encBl.len q g lb eg b off (n + 1) c xs w hp (by omega) hb hbs ?_
  ·
   rw [← hn, List.take_length] at this
   rw [← hn]
   exact this
  ·
   intro j hj i u hi
   obtain ⟨b', off', e, _, hc⟩ := hR.get (List.getElem?_eq_getElem hj)
   simp only [Option.some.injEq, Addr.mk.injEq] at e
   obtain ⟨rfl, rfl, -⟩ := e
   rw [getElem!_pos xs j hj] at hi
   exact hc i u hi
theorem anyI_k (g : Nat) (eg : ∀ args w, (callFunc g args).run Tryz.prog w = .ok (.enter g args) w) (lb : Array Value) (q : Int → Bool) (A : Option Addr) (n c : Nat) (xs : List Int) (w : World) (hp : PredAt Tryz.prog g lb (Value.int .i64) q w) (hR : RowsAt encI w A xs) (hn : xs.length = n) (hb : n ≤ 9223372036854775807) :
  Calls Tryz.prog 118 #[.slice A n c, .func (.func g) #[] lb] w fun e w' => e = .returned (.bool (xs.any q)) ∧ Below w.heap.size w w' := by
 cases n with
 | zero =>
  have : xs = [] := List.length_eq_zero_iff.1 hn
  subst this
  exact (AnyE.slices_ContainsFunc_empty laysAnyI A c _ w).mono fun e w' ⟨h1, h2⟩ => ⟨h1, h2 ▸ Below.refl _ _⟩
 | succ n =>
  obtain ⟨b, off, rfl, hbs, _⟩ := hR.get (List.getElem?_eq_getElem (show 0 < xs.length by omega))
  have := AnyE.slices_ContainsFunc laysAnyI (Value.int .i64) q g lb eg b off (n + 1) c xs w hp (by omega) hb ?_
  ·
   rw [← hn, List.take_length] at this
   rw [← hn]
   exact this.mono fun e w' ⟨h1, m, h2⟩ => ⟨h1, h2 ▸ below_drewN' (Below.refl _ w) m⟩
  ·
   intro j hj
   obtain ⟨b', off', e, _, hc⟩ := hR.int hj
   simp only [Option.some.injEq, Addr.mk.injEq] at e
   obtain ⟨rfl, rfl, -⟩ := e
   exact hc
theorem clSt_k (A : Option Addr) (n c : Nat) (xs : List St) (w : World) (hR : RowsAt encSt w A xs) (hn : xs.length = n) (hl : n ≤ 65536) :
  Calls Tryz.prog 79 #[.slice A n c] w fun e w' => ∃ A' c', e = .returned (.slice A' n c') ∧ OwnRows encSt 95 w' w.heap.size A' c' xs ∧ Below w.heap.size w w' := by
 have q27 : ∀ (W : World) (a : Option Addr) (n c n' c' : Nat), (binOp .eql 39 (.slice a n c) (.slice none n' c')).run Tryz.prog W = .ok (.bool a.isNone) W := fun W a n c n' c' => Lib.run_eql_slice_nil W _ _ a n c n' c' Tryz.underlying39
 cases A with
 | none =>
  have h0 : xs = [] := by
   cases xs with
   | nil => rfl
   | cons x xs => obtain ⟨b, off, e, _⟩ := hR.get (i := 0) rfl; cases e
  subst h0
  go_enter Tryz.func79, Tryz.ntmps79
  go_wp2
  go_ret
  exact ⟨none, 0, by rw [← hn]; rfl, OwnRows.nil _ _, Below.refl _ _⟩
 | some ad =>
  have hO : OwnRows encSt 95 (w.alloc (.cells #[] 95)) w.heap.size (some ⟨w.heap.size, 0, none⟩) 0 ([] : List St) := ⟨by simp [Laid.flat], .inr ⟨w.heap.size, 0, #[], rfl, Nat.le_refl _, Blk.new _ _ _, Nat.le_refl _, Nat.zero_le _, rfl, rfl⟩⟩
  have hb0 : Below w.heap.size w (w.alloc (.cells #[] 95)) := (Below.refl _ _).alloc (Nat.le_refl _) _
  have hn' := Lib.hid hn
  clear hn
  go_enter Tryz.func79, Tryz.ntmps79
  go_wp2_with (at_builtin; refine wpList_app_rows rowSt rfl _ _ rfl w.heap.size (some ⟨w.heap.size, 0, none⟩) 0 [] 0 rfl rfl hO (some ad) c xs n rfl hn'.out (hR.alloc _) (by omega) (by decide) (by simp) ?_; intro A2 c2 W2 ho2 hgr2 hat2)
  go_ret
  simp only [List.nil_append] at ho2
  refine ⟨A2, c2, by simp, ho2, hb0.grown hgr2 hb0.size ?_⟩
  intro k hk
  simp at hk
  omega
theorem clSc_k (A : Option Addr) (n c : Nat) (xs : List Sc) (w : World) (hR : RowsAt encSc w A xs) (hn : xs.length = n) (hl : n ≤ 65536) :
  Calls Tryz.prog 80 #[.slice A n c] w fun e w' => ∃ A' c', e = .returned (.slice A' n c') ∧ OwnRows encSc 122 w' w.heap.size A' c' xs ∧ Below w.heap.size w w' := by
 have q27 : ∀ (W : World) (a : Option Addr) (n c n' c' : Nat), (binOp .eql 40 (.slice a n c) (.slice none n' c')).run Tryz.prog W = .ok (.bool a.isNone) W := fun W a n c n' c' => Lib.run_eql_slice_nil W _ _ a n c n' c' Tryz.underlying40
 cases A with
 | none =>
  have h0 : xs = [] := by
   cases xs with
   | nil => rfl
   | cons x xs => obtain ⟨b, off, e, _⟩ := hR.get (i := 0) rfl; cases e
  subst h0
  go_enter Tryz.func80, Tryz.ntmps80
  go_wp2
  go_ret
  exact ⟨none, 0, by rw [← hn]; rfl, OwnRows.nil _ _, Below.refl _ _⟩
 | some ad =>
  have hO : OwnRows encSc 122 (w.alloc (.cells #[] 122)) w.heap.size (some ⟨w.heap.size, 0, none⟩) 0 ([] : List Sc) := ⟨by simp [Laid.flat], .inr ⟨w.heap.size, 0, #[], rfl, Nat.le_refl _, Blk.new _ _ _, Nat.le_refl _, Nat.zero_le _, rfl, rfl⟩⟩
  have hb0 : Below w.heap.size w (w.alloc (.cells #[] 122)) := (Below.refl _ _).alloc (Nat.le_refl _) _
  have hn' := Lib.hid hn
  clear hn
  go_enter Tryz.func80, Tryz.ntmps80
  go_wp2_with (at_builtin; refine wpList_app_rows rowSc rfl _ _ rfl w.heap.size (some ⟨w.heap.size, 0, none⟩) 0 [] 0 rfl rfl hO (some ad) c xs n rfl hn'.out (hR.alloc _) (by omega) (by decide) (by simp) ?_; intro A2 c2 W2 ho2 hgr2 hat2)
  go_ret
  simp only [List.nil_append] at ho2
  refine ⟨A2, c2, by simp, ho2, hb0.grown hgr2 hb0.size ?_⟩
  intro k hk
  simp at hk
  omega
theorem clI_k (A : Option Addr) (n c : Nat) (xs : List Int) (w : World) (hR : RowsAt encI w A xs) (hn : xs.length = n) (hl : n ≤ 65536) :
  Calls Tryz.prog 81 #[.slice A n c] w fun e w' => ∃ A' c', e = .returned (.slice A' n c') ∧ OwnRows encI 3 w' w.heap.size A' c' xs ∧ Below w.heap.size w w' := by
 have q27 : ∀ (W : World) (a : Option Addr) (n c n' c' : Nat), (binOp .eql 22 (.slice a n c) (.slice none n' c')).run Tryz.prog W = .ok (.bool a.isNone) W := fun W a n c n' c' => Lib.run_eql_slice_nil W _ _ a n c n' c' Tryz.underlying22
 cases A with
 | none =>
  have h0 : xs = [] := by
   cases xs with
   | nil => rfl
   | cons x xs => obtain ⟨b, off, e, _⟩ := hR.get (i := 0) rfl; cases e
  subst h0
  go_enter Tryz.func81, Tryz.ntmps81
  go_wp2
  go_ret
  exact ⟨none, 0, by rw [← hn]; rfl, OwnRows.nil _ _, Below.refl _ _⟩
 | some ad =>
  have hO : OwnRows encI 3 (w.alloc (.cells #[] 3)) w.heap.size (some ⟨w.heap.size, 0, none⟩) 0 ([] : List Int) := ⟨by simp [Laid.flat], .inr ⟨w.heap.size, 0, #[], rfl, Nat.le_refl _, Blk.new _ _ _, Nat.le_refl _, Nat.zero_le _, rfl, rfl⟩⟩
  have hb0 : Below w.heap.size w (w.alloc (.cells #[] 3)) := (Below.refl _ _).alloc (Nat.le_refl _) _
  have hn' := Lib.hid hn
  clear hn
  go_enter Tryz.func81, Tryz.ntmps81
  go_wp2_with (at_builtin; refine wpList_app_rows rowI rfl _ _ rfl w.heap.size (some ⟨w.heap.size, 0, none⟩) 0 [] 0 rfl rfl hO (some ad) c xs n rfl hn'.out (hR.alloc _) (by omega) (by decide) (by simp) ?_; intro A2 c2 W2 ho2 hgr2 hat2)
  go_ret
  simp only [List.nil_append] at ho2
  refine ⟨A2, c2, by simp, ho2, hb0.grown hgr2 hb0.size ?_⟩
  intro k hk
  simp at hk
  omega
theorem clSp_k (A : Option Addr) (n c : Nat) (xs : List Sp) (w : World) (hR : RowsAt encSp w A xs) (hn : xs.length = n) (hl : n ≤ 65536) :
  Calls Tryz.prog 100 #[.slice A n c] w fun e w' => ∃ A' c', e = .returned (.slice A' n c') ∧ OwnRows encSp 75 w' w.heap.size A' c' xs ∧ Below w.heap.size w w' := by
 have q27 : ∀ (W : World) (a : Option Addr) (n c n' c' : Nat), (binOp .eql 53 (.slice a n c) (.slice none n' c')).run Tryz.prog W = .ok (.bool a.isNone) W := fun W a n c n' c' => Lib.run_eql_slice_nil W _ _ a n c n' c' Tryz.underlying53
 cases A with
 | none =>
  have h0 : xs = [] := by
   cases xs with
   | nil => rfl
   | cons x xs => obtain ⟨b, off, e, _⟩ := hR.get (i := 0) rfl; cases e
  subst h0
  go_enter Tryz.func100, Tryz.ntmps100
  go_wp2
  go_ret
  exact ⟨none, 0, by rw [← hn]; rfl, OwnRows.nil _ _, Below.refl _ _⟩
 | some ad =>
  have hO : OwnRows encSp 75 (w.alloc (.cells #[] 75)) w.heap.size (some ⟨w.heap.size, 0, none⟩) 0 ([] : List Sp) := ⟨by simp [Laid.flat], .inr ⟨w.heap.size, 0, #[], rfl, Nat.le_refl _, Blk.new _ _ _, Nat.le_refl _, Nat.zero_le _, rfl, rfl⟩⟩
  have hb0 : Below w.heap.size w (w.alloc (.cells #[] 75)) := (Below.refl _ _).alloc (Nat.le_refl _) _
  have hn' := Lib.hid hn
  clear hn
  go_enter Tryz.func100, Tryz.ntmps100
  go_wp2_with (at_builtin; refine wpList_app_rows rowSp rfl _ _ rfl w.heap.size (some ⟨w.heap.size, 0, none⟩) 0 [] 0 rfl rfl hO (some ad) c xs n rfl hn'.out (hR.alloc _) (by omega) (by decide) (by simp) ?_; intro A2 c2 W2 ho2 hgr2 hat2)
  go_ret
  simp only [List.nil_append] at ho2
  refine ⟨A2, c2, by simp, ho2, hb0.grown hgr2 hb0.size ?_⟩
  intro k hk
  simp at hk
  omega
end Go.Proofs.YtkaggddmhjifjaaGreatDoor
set_option linter.unusedSimpArgs false
set_option linter.unusedVariables false
namespace Go.Proofs.YtkaggddmhjifjaaGreatDoor
open Go.RowKit
theorem putSp_perm (s : Sp) : ∀ l, (putSp s l).Perm (s :: l)
 | [] => .refl _
 | x :: l => by
  rw [putSp]
  split
  ·
   exact .refl _
  ·
   exact ((putSp_perm s l).cons x).trans (.swap s x l)
theorem foldSp_perm : ∀ l : List Sp, (l.foldr putSp []).Perm l
 | [] => .refl _
 | s :: l => by
  rw [List.foldr_cons]
  exact (putSp_perm s _).trans ((foldSp_perm l).cons s)
theorem edge_len {t : Tp} (hl : ∀ n ∈ t.edges, 1 ≤ n ∧ n ≤ 1000000) {e : Int} (h : thereT t e = true) : 0 ≤ e ∧ 1 ≤ edgeT t e ∧ edgeT t e ≤ 1000000 := by
 unfold thereT at h
 simp only [Bool.and_eq_true, decide_eq_true_eq] at h
 have hi : e.toNat < t.edges.length := by omega
 unfold edgeT
 rw [getElem!_pos t.edges e.toNat hi]
 have := hl _ (List.getElem_mem hi)
 exact ⟨h.1, this⟩
def lensT (t : Tp) (path : List St) : Int := (path.map fun s => edgeT t s.edge).sum
theorem lens_nonneg {t : Tp} (hl : ∀ n ∈ t.edges, 1 ≤ n ∧ n ≤ 1000000) : ∀ path : List St, (∀ s ∈ path, thereT t s.edge = true) → 0 ≤ lensT t path ∧ lensT t path ≤ 1000000 * path.length
 | [], _ => by simp [lensT]
 | s :: l, h => by
  have ih := lens_nonneg hl l fun x hx => h x (List.mem_cons_of_mem _ hx)
  have := edge_len hl (h s (by simp))
  unfold lensT at ih ⊢
  rw [List.map_cons, List.sum_cons, List.length_cons]
  omega
theorem sum_foldl {t : Tp} (hl : ∀ n ∈ t.edges, 1 ≤ n ∧ n ≤ 1000000) : ∀ (path : List St) (a : Int), (∀ s ∈ path, thereT t s.edge = true) → 0 ≤ a → a + 1000000 * path.length ≤ 1000000000 → path.foldl (fun n s => wrap64 (n + edgeT t s.edge)) a = a + lensT t path
 | [], a, _, _, _ => by simp [lensT]
 | s :: l, a, h, h0, hb => by
  have hs := edge_len hl (h s (by simp))
  rw [List.length_cons] at hb
  rw [List.foldl_cons, show wrap64 (a + edgeT t s.edge) = a + edgeT t s.edge by unfold wrap64; omega, sum_foldl hl l _ (fun x hx => h x (List.mem_cons_of_mem _ hx)) (by omega) (by omega)]
  simp only [lensT, List.map_cons, List.sum_cons]
  omega
theorem len_ok {t : Tp} {path : List St} (h : lenE t path = 0) : path.length ≤ 40 ∧ path ≠ [] ∧ (∀ s ∈ path, thereT t s.edge = true) ∧ wayT t path = true := by
 unfold lenE at h
 split at h
 ·
  simp at h
 ·
  rename_i h1
  split at h
  ·
   rename_i h2
   split at h
   ·
    rename_i h3
    refine ⟨by omega, ?_, fun s hs => by simpa using List.all_eq_true.1 h2 s hs, h3⟩
    rintro rfl
    simp at h1
   ·
    simp at h
  ·
   simp at h
theorem len_is {t : Tp} (hl : ∀ n ∈ t.edges, 1 ≤ n ∧ n ≤ 1000000) {path : List St} (h : lenE t path = 0) : lenT t path = lensT t path := by
 obtain ⟨h1, _, h2, _⟩ := len_ok h
 unfold lenT sumT
 rw [if_pos h, sum_foldl hl path 0 h2 (by omega) (by omega), Int.zero_add]
theorem check_edges {t : Tp} (h : checkT t = 0) : ∀ n ∈ t.edges, 1 ≤ n ∧ n ≤ 1000000 := by
 intro n hn
 unfold checkT at h
 split at h
 ·
  simp at h
 ·
  split at h
  ·
   simp at h
  ·
   rename_i h2
   have := fun hh => h2 (List.any_eq_true.2 ⟨n, hn, hh⟩)
   simp at this
   omega
theorem may_ok {t : Tp} {m : Ma} (h : mayP t m = true) : checkT t = 0 ∧ twiceP [] m.path = false ∧ 0 ≤ m.gap ∧ ∃ x, leftP t m = some x ∧ lastP m + m.gap ≤ x.1 := by
 unfold mayP at h
 simp only [Bool.and_eq_true, decide_eq_true_eq, Bool.not_eq_true'] at h
 obtain ⟨⟨⟨⟨⟨⟨⟨⟨h1, h2⟩, h3⟩, h4⟩, h5⟩, h6⟩, h7⟩, h8⟩, h9⟩ := h
 refine ⟨h1, h3, h6, ?_⟩
 cases hx : leftP t m with
 | none => rw [hx] at h9; cases h9
 | some x => rw [hx] at h9; exact ⟨x, rfl, by simpa using h9⟩
theorem bals_ok (t : Tp) : ∀ (l d : List Bl), balsE t d l = 0 → ∀ b ∈ l, thereT t b.edge = true ∧ 0 ≤ b.at_ ∧ b.at_ ≤ edgeT t b.edge
 | [], _, _ => by simp
 | x :: l, d, h => by
  rw [balsE] at h
  split at h
  ·
   simp at h
  ·
   rename_i h1
   split at h
   ·
    simp at h
   ·
    intro b hb
    rcases List.mem_cons.1 hb with rfl | hb
    ·
     simp only [not_or, Bool.not_eq_false] at h1
     exact ⟨h1.2.2.1, by omega, by omega⟩
    ·
     exact bals_ok t l _ h b hb
theorem check_bal {t : Tp} (h : checkT t = 0) {id : Int} {b : Bl} (hb : balT t id = some b) : thereT t b.edge = true ∧ 0 ≤ b.at_ ∧ b.at_ ≤ edgeT t b.edge := by
 have hm : b ∈ t.bals := List.mem_of_find?_eq_some hb
 refine bals_ok t t.bals [] ?_ b hm
 unfold checkT at h
 split at h
 ·
  simp at h
 ·
  split at h
  ·
   simp at h
  ·
   split at h
   ·
    rename_i h3; exact absurd h h3
   ·
    split at h
    ·
     rename_i h4; exact absurd h h4
    ·
     rename_i h4; exact Decidable.not_not.1 h4
theorem left_ok {t : Tp} {m : Ma} (hc : checkT t = 0) {x : Int × Int} (h : leftP t m = some x) : lenE t m.path = 0 ∧ x.1 + x.2 = lenT t m.path ∧ 0 ≤ x.2 := by
 unfold leftP at h
 split at h
 ·
  cases h
 ·
  rename_i b hb
  obtain ⟨h1, h2, h3⟩ := check_bal hc hb
  split at h
  ·
   cases h
  ·
   rename_i h4
   simp only [Option.some.injEq] at h
   subst h
   refine ⟨?_, by simp, ?_⟩
   ·
    by_cases e : lenE t m.path = 0
    ·
     exact e
    ·
     exact absurd (.inr e) h4
   ·
    simp only
    split <;> omega
theorem sects_rise : ∀ (l : List Sc) (last : Int), sectsP last l = true → ∀ s ∈ l, last < s.to_ ∧ s.to_ ≤ lastP ⟨0, false, [], l, 0⟩
 | [], _, _ => by simp
 | [x], last, h => by
  rw [sectsP] at h
  simp only [Bool.and_eq_true, decide_eq_true_eq] at h
  intro s hs
  rw [List.mem_singleton.1 hs]
  exact ⟨h.1.1.1.1, by simp [lastP]⟩
 | x :: y :: l, last, h => by
  rw [sectsP] at h
  simp only [Bool.and_eq_true, decide_eq_true_eq] at h
  have ih := sects_rise (y :: l) x.to_ h.2
  intro s hs
  have e : lastP ⟨0, false, [], x :: y :: l, 0⟩ = lastP ⟨0, false, [], y :: l, 0⟩ := by unfold lastP; rw [List.getLast?_cons_cons]
  rw [e]
  rcases List.mem_cons.1 hs with rfl | hs
  ·
   have := ih y (by simp)
   omega
  ·
   have := ih s hs
   omega
theorem reach_in : ∀ (l : List Sc) (age n : Int), reachP l age n = n ∨ ∃ s ∈ l, reachP l age n = s.to_
 | [], _, _ => .inl rfl
 | s :: l, age, n => by
  rw [reachP]
  split
  ·
   exact .inl rfl
  ·
   rcases reach_in l age s.to_ with h | ⟨x, hx, h⟩
   ·
    exact .inr ⟨s, by simp, h⟩
   ·
    exact .inr ⟨x, by simp [hx], h⟩
theorem may_sects {t : Tp} {m : Ma} (h : mayP t m = true) : sectsP 0 m.sects = true ∧ m.sects ≠ [] := by
 unfold mayP at h
 simp only [Bool.and_eq_true, decide_eq_true_eq, Bool.not_eq_true'] at h
 obtain ⟨⟨⟨⟨⟨⟨⟨⟨h1, h2⟩, h3⟩, h4⟩, h5⟩, h6⟩, h7⟩, h8⟩, h9⟩ := h
 refine ⟨h8, ?_⟩
 intro e
 rw [e] at h4
 simp at h4
theorem reach_last {t : Tp} {m : Ma} (h : mayP t m = true) (age : Int) : 0 ≤ reachP m.sects age 0 ∧ reachP m.sects age 0 ≤ lastP m := by
 obtain ⟨h1, h2⟩ := may_sects h
 have hl := sects_rise m.sects 0 h1
 rw [show lastP m = lastP ⟨0, false, [], m.sects, 0⟩ from rfl]
 cases hs : m.sects with
 | nil => exact absurd hs h2
 | cons a l =>
  rw [← hs]
  rcases reach_in m.sects age 0 with e | ⟨s, hm, e⟩
  ·
   rw [e]
   have := hl a (by rw [hs]; simp)
   omega
  ·
   rw [e]
   have := hl s hm
   omega
theorem front_nonneg {t : Tp} {x : Tr} {n : Int} (h : frontX t x = some n) : 0 ≤ n ∧ mayX t x = true ∧ x.held = true ∧ mayP t x.ma = true := by
 unfold frontX at h
 split at h
 ·
  rename_i h1
  have hm : mayP t x.ma = true := by
   have := h1.1
   unfold mayX at this
   rw [h1.2] at this
   simp only [Bool.and_eq_true, if_true] at this
   exact this.2
  refine ⟨?_, h1.1, h1.2, hm⟩
  unfold frontM at h
  split at h
  ·
   cases h
  ·
   split at h
   ·
    simp only [Option.some.injEq] at h
    omega
   ·
    cases h
 ·
  cases h
end Go.Proofs.YtkaggddmhjifjaaGreatDoor
set_option linter.unusedSimpArgs false
set_option linter.unusedVariables false
namespace Go.Proofs.YtkaggddmhjifjaaGreatDoor
def hasSp (l : List Sp) (e x : Int) : Prop := ∃ s ∈ l, s.edge = e ∧ s.lo ≤ x ∧ x < s.hi
def ahead (a b : Sp) : Prop := a.edge < b.edge ∨ a.edge = b.edge ∧ a.hi < b.lo
theorem hasSp_cons (s : Sp) (l : List Sp) (e x : Int) : hasSp (s :: l) e x ↔ (s.edge = e ∧ s.lo ≤ x ∧ x < s.hi) ∨ hasSp l e x := by
 simp [hasSp]
theorem hasSp_nil (e x : Int) : ¬ hasSp [] e x := by simp [hasSp]
theorem first_le {y : Sp} {m : List Sp} (hp : (y :: m).Pairwise ahead) (hs : ∀ s ∈ y :: m, s.lo < s.hi) {e x : Int} (h : hasSp (y :: m) e x) : y.edge < e ∨ y.edge = e ∧ y.lo ≤ x := by
 rw [List.pairwise_cons] at hp
 obtain ⟨s, hm, h1, h2, h3⟩ := h
 rcases List.mem_cons.1 hm with rfl | hm
 ·
  exact .inr ⟨h1, h2⟩
 ·
  have hy := hs y (by simp)
  rcases hp.1 s hm with h | ⟨h, h4⟩
  ·
   exact .inl (by omega)
  ·
   exact .inr ⟨by omega, by omega⟩
theorem first_hi {y : Sp} {m : List Sp} (hp : (y :: m).Pairwise ahead) : ¬ hasSp (y :: m) y.edge y.hi := by
 rw [List.pairwise_cons] at hp
 rintro ⟨s, hm, h1, h2, h3⟩
 rcases List.mem_cons.1 hm with rfl | hm
 ·
  omega
 ·
  rcases hp.1 s hm with h | ⟨h, h4⟩ <;> omega
theorem tail_has {y : Sp} {m : List Sp} (hp : (y :: m).Pairwise ahead) (e x : Int) : hasSp m e x ↔ hasSp (y :: m) e x ∧ ¬ (y.edge = e ∧ y.lo ≤ x ∧ x < y.hi) := by
 rw [hasSp_cons]
 rw [List.pairwise_cons] at hp
 constructor
 ·
  intro h
  refine ⟨.inr h, ?_⟩
  rintro ⟨h1, h2, h3⟩
  obtain ⟨s, hm, h4, h5, h6⟩ := h
  rcases hp.1 s hm with h | ⟨h, h7⟩ <;> omega
 ·
  rintro ⟨h | h, h2⟩
  ·
   exact absurd h h2
  ·
   exact h
theorem normal_one : ∀ l m : List Sp, l.Pairwise ahead → m.Pairwise ahead → (∀ s ∈ l, s.lo < s.hi) → (∀ s ∈ m, s.lo < s.hi) → (∀ e x, hasSp l e x ↔ hasSp m e x) → l = m
 | [], [], _, _, _, _, _ => rfl
 | [], y :: m, _, _, _, hm, h => by
  have hy := hm y (by simp)
  exact absurd ((h y.edge y.lo).2 ((hasSp_cons _ _ _ _).2 (.inl ⟨rfl, Int.le_refl _, hy⟩))) (hasSp_nil _ _)
 | y :: l, [], _, _, hm, _, h => by
  have hy := hm y (by simp)
  exact absurd ((h y.edge y.lo).1 ((hasSp_cons _ _ _ _).2 (.inl ⟨rfl, Int.le_refl _, hy⟩))) (hasSp_nil _ _)
 | x :: l, y :: m, pl, pm, hl, hm, h => by
  have hx := hl x (by simp)
  have hy := hm y (by simp)
  have a1 := first_le pm hm ((h x.edge x.lo).1 ((hasSp_cons _ _ _ _).2 (.inl ⟨rfl, Int.le_refl _, hx⟩)))
  have a2 := first_le pl hl ((h y.edge y.lo).2 ((hasSp_cons _ _ _ _).2 (.inl ⟨rfl, Int.le_refl _, hy⟩)))
  have e1 : x.edge = y.edge := by omega
  have e2 : x.lo = y.lo := by omega
  have e3 : x.hi = y.hi := by
   rcases Int.lt_trichotomy x.hi y.hi with g | g | g
   ·
    exact absurd ((h x.edge x.hi).2 ((hasSp_cons _ _ _ _).2 (.inl ⟨e1.symm, by omega, g⟩))) (first_hi pl)
   ·
    exact g
   ·
    exact absurd ((h y.edge y.hi).1 ((hasSp_cons _ _ _ _).2 (.inl ⟨e1, by omega, g⟩))) (first_hi pm)
  have e : x = y := by
   obtain ⟨x1, x2, x3⟩ := x
   obtain ⟨y1, y2, y3⟩ := y
   simp only at e1 e2 e3
   rw [e1, e2, e3]
  subst e
  rw [normal_one l m (List.pairwise_cons.1 pl).2 (List.pairwise_cons.1 pm).2 (fun s hs => hl s (List.mem_cons_of_mem _ hs)) (fun s hs => hm s (List.mem_cons_of_mem _ hs))]
  intro e x'
  rw [tail_has pl, tail_has pm, h]
theorem join_normal : ∀ (l out : List Sp), out.Pairwise (fun a b => ahead b a) → (∀ s ∈ out, s.lo < s.hi) → (∀ s ∈ l, s.lo < s.hi) → l.Pairwise keyLe → (∀ o, out.head? = some o → ∀ s ∈ l, keyLe o s) →
  (joinT out l).Pairwise (fun a b => ahead b a) ∧ (∀ s ∈ joinT out l, s.lo < s.hi) ∧ ∀ e x, hasSp (joinT out l) e x ↔ hasSp out e x ∨ hasSp l e x
 | [], out, hp, ho, _, _, _ => by
  rw [joinT.eq_def]
  simp only
  exact ⟨hp, ho, fun e x => ⟨.inl, fun h => h.elim id (fun h => absurd h (hasSp_nil _ _))⟩⟩
 | s :: l, [], _, _, hl, hs, _ => by
  rw [List.pairwise_cons] at hs
  have := join_normal l [s] (by simp) (by intro y hy; rw [List.mem_singleton] at hy; subst hy; exact hl _ (by simp)) (fun y hy => hl y (List.mem_cons_of_mem _ hy)) hs.2 (by intro o ho y hy; simp at ho; subst ho; exact hs.1 y hy)
  rw [joinT]
  refine ⟨this.1, this.2.1, fun e x => ?_⟩
  rw [this.2.2 e x, hasSp_cons, hasSp_cons]
  have h0 := hasSp_nil e x
  constructor
  ·
   rintro ((h | h) | h)
   ·
    exact .inr (.inl h)
   ·
    exact absurd h h0
   ·
    exact .inr (.inr h)
  ·
   rintro (h | h | h)
   ·
    exact absurd h h0
   ·
    exact .inl (.inl h)
   ·
    exact .inr h
 | s :: l, o :: out, hp, ho, hl, hs, hk => by
  rw [List.pairwise_cons] at hp hs
  have hos := hk o rfl s (by simp)
  have h1 := ho o (by simp)
  have h2 := hl s (by simp)
  rw [joinT]
  by_cases hc : o.edge = s.edge ∧ s.lo ≤ o.hi
  ·
   rw [if_pos hc]
   have hkl : o.lo ≤ s.lo := by
    rcases hos with h | h <;> omega
   have := join_normal l (⟨o.edge, o.lo, max o.hi s.hi⟩ :: out) ?_ ?_ (fun y hy => hl y (List.mem_cons_of_mem _ hy)) hs.2 ?_
   ·
    refine ⟨this.1, this.2.1, fun e x => ?_⟩
    rw [this.2.2 e x, hasSp_cons, hasSp_cons, hasSp_cons]
    simp only
    constructor
    ·
     rintro ((h | h) | h)
     ·
      by_cases hx : x < o.hi
      ·
       exact .inl (.inl ⟨h.1, h.2.1, hx⟩)
      ·
       exact .inr (.inl ⟨by omega, by omega, by omega⟩)
     ·
      exact .inl (.inr h)
     ·
      exact .inr (.inr h)
    ·
     rintro ((h | h) | h | h)
     ·
      exact .inl (.inl ⟨h.1, h.2.1, by omega⟩)
     ·
      exact .inl (.inr h)
     ·
      exact .inl (.inl ⟨by omega, by omega, by omega⟩)
     ·
      exact .inr h
   ·
    refine List.pairwise_cons.2 ⟨fun b hb => ?_, hp.2⟩
    rcases hp.1 b hb with h | h
    ·
     exact .inl h
    ·
     exact .inr h
   ·
    intro y hy
    rcases List.mem_cons.1 hy with rfl | hy
    ·
     show o.lo < max o.hi s.hi
     omega
    ·
     exact ho y (List.mem_cons_of_mem _ hy)
   ·
    intro o' ho' y hy
    simp at ho'
    subst ho'
    exact hk o rfl y (List.mem_cons_of_mem _ hy)
  ·
   rw [if_neg hc]
   have hah : ahead o s := by
    rcases hos with h | h
    ·
     exact .inl h
    ·
     exact .inr ⟨h.1, by omega⟩
   have := join_normal l (s :: o :: out) ?_ ?_ (fun y hy => hl y (List.mem_cons_of_mem _ hy)) hs.2 ?_
   ·
    refine ⟨this.1, this.2.1, fun e x => ?_⟩
    rw [this.2.2 e x, hasSp_cons, hasSp_cons s l]
    constructor
    ·
     rintro ((h | h) | h)
     ·
      exact .inr (.inl h)
     ·
      exact .inl h
     ·
      exact .inr (.inr h)
    ·
     rintro (h | h | h)
     ·
      exact .inl (.inr h)
     ·
      exact .inl (.inl h)
     ·
      exact .inr h
   ·
    refine List.pairwise_cons.2 ⟨fun b hb => ?_, List.pairwise_cons.2 hp⟩
    rcases List.mem_cons.1 hb with rfl | hb
    ·
     exact hah
    ·
     rcases hp.1 b hb with h | ⟨h, h'⟩
     ·
      rcases hos with g | g
      ·
       exact .inl (by omega)
      ·
       exact .inl (by omega)
     ·
      rcases hos with g | g
      ·
       exact .inl (by omega)
      ·
       exact .inr ⟨by omega, by omega⟩
   ·
    intro y hy
    rcases List.mem_cons.1 hy with rfl | hy
    ·
     exact h2
    ·
     exact ho y hy
   ·
    intro o' ho' y hy
    simp at ho'
    subst ho'
    exact hs.1 y hy
theorem spLe_key {a b : Sp} : spLe a b = true ↔ keyLe a b := by
 unfold spLe keyLe
 simp
theorem putSp_sorted (s : Sp) : ∀ l : List Sp, l.Pairwise keyLe → (putSp s l).Pairwise keyLe
 | [], _ => by simp [putSp]
 | x :: l, h => by
  rw [putSp]
  have h' := List.pairwise_cons.1 h
  split
  ·
   rename_i hle
   have hk := spLe_key.1 hle
   refine List.pairwise_cons.2 ⟨fun y hy => ?_, h⟩
   rcases List.mem_cons.1 hy with rfl | hy
   ·
    exact hk
   ·
    have := h'.1 y hy
    unfold keyLe at *
    omega
  ·
   rename_i hle
   have hk : keyLe x s := by
    have : ¬ keyLe s x := fun h => hle (spLe_key.2 h)
    unfold keyLe at *
    omega
   refine List.pairwise_cons.2 ⟨fun y hy => ?_, putSp_sorted s l h'.2⟩
   rcases List.mem_cons.1 ((putSp_perm s l).mem_iff.1 hy) with rfl | hy
   ·
    exact hk
   ·
    exact h'.1 y hy
theorem foldSp_sorted : ∀ l : List Sp, (l.foldr putSp []).Pairwise keyLe
 | [] => .nil
 | s :: l => by
  rw [List.foldr_cons]
  exact putSp_sorted s _ (foldSp_sorted l)
theorem some_lt {s : Sp} (h : someT s = true) : s.lo < s.hi := by
 unfold someT at h
 simp only [Bool.and_eq_true, decide_eq_true_eq] at h
 omega
theorem hasSp_perm {l m : List Sp} (h : l.Perm m) (e x : Int) : hasSp l e x ↔ hasSp m e x := by
 unfold hasSp
 constructor
 ·
  rintro ⟨s, hs, hh⟩
  exact ⟨s, h.mem_iff.1 hs, hh⟩
 ·
  rintro ⟨s, hs, hh⟩
  exact ⟨s, h.mem_iff.2 hs, hh⟩
theorem norm_any {l d : List Sp} (hp : d.Perm (l.filter someT)) (hs : d.Pairwise keyLe) : (joinT [] d).reverse = normT l := by
 unfold normT
 have h0 : ∀ s ∈ l.filter someT, s.lo < s.hi := fun s h => some_lt (List.mem_filter.1 h).2
 have hq := foldSp_perm (l.filter someT)
 have hd : ∀ s ∈ d, s.lo < s.hi := fun s h => h0 s (hp.mem_iff.1 h)
 have hf : ∀ s ∈ (l.filter someT).foldr putSp [], s.lo < s.hi := fun s h => h0 s (hq.mem_iff.1 h)
 have a := join_normal d [] .nil (by simp) hd hs (by simp)
 have b := join_normal ((l.filter someT).foldr putSp []) [] .nil (by simp) hf (foldSp_sorted _) (by simp)
 refine normal_one _ _ (List.pairwise_reverse.2 a.1) (List.pairwise_reverse.2 b.1) (fun s h => a.2.1 s (List.mem_reverse.1 h)) (fun s h => b.2.1 s (List.mem_reverse.1 h)) fun e x => ?_
 rw [hasSp_perm (List.reverse_perm _), hasSp_perm (List.reverse_perm _), a.2.2, b.2.2, hasSp_perm (hp.trans hq.symm)]
end Go.Proofs.YtkaggddmhjifjaaGreatDoor
