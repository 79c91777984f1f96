/- Texts in one: TopoSmall TopoBal TopoJoins TopoMay TopoEnd TopoWay OwnLaw TopoMem. -/
import Derived.Test.YtkaggddmhjifjaaGreatDoorK02
import Derived.Test.YtkaggddmhjifjaaGreatDoorProg
import Derived.Shelf.SlicesQ.IndexFunc
import Derived.Ground.SlgfProg
import Derived.Shelf.SlicesQ.Contains
import Derived.Laws.StructEq
import Derived.Ground.SlgqProg
import Derived.Test.YtkaggddmhjifjaaGreatDoorK01
import Derived.Lib.Hide
set_option linter.unusedSimpArgs false
set_option linter.unusedVariables false
namespace Go.Proofs.YtkaggddmhjifjaaGreatDoor
open Go.RowKit
theorem tothere_k (t : Tp) (v : TpV) (e : Int) (w : World) : Calls Tryz.prog 123 #[.agg (v.cells t), .int .i64 e] w fun r w' => r = .returned (.bool (thereT t e)) ∧ Below w.heap.size w w' := by
 unfold TpV.cells thereT
 generalize t.edges.length = n1
 generalize t.joints.length = n2
 generalize t.bals.length = n3
 generalize t.routes.length = n4
 obtain ⟨A1, c1, A2, c2, A3, c3, A4, c4, rs⟩ := v
 simp only
 have hO : Own w _ [_] := (Own.nil w).alloc 27 #[.slice A1 n1 c1, .slice A2 n2 c2, .slice A3 n3 c3, .slice A4 n4 c4] _ rfl
 have hcl := hO.b0.cell
 by_cases h1 : 0 ≤ e
 ·
  rw [decide_eq_true h1]
  go_enter Tryz.func123, Tryz.ntmps123
  go_wp2_with fail
  go_ret
  exact ⟨by simp, hO.below⟩
 ·
  rw [decide_eq_false h1]
  go_enter Tryz.func123, Tryz.ntmps123
  go_wp2_with fail
  go_ret
  exact ⟨by simp, hO.below⟩
abbrev stV (s : St) : Value := .agg #[.int .i64 s.edge, .bool s.rev]
abbrev enV (s : En) : Value := .agg #[.int .i64 s.edge, .int .i64 s.at_]
abbrev blV (b : Bl) : Value := .agg #[.int .i64 b.id, .int .i64 b.edge, .int .i64 b.at_]
theorem results_c {P : Program} {fn : Func} {a : Tmp} {t1 : TypeId} (h : fn.results = #[.cell a t1]) (tmps : Array Value) (w : World) (g1 : Nat) (c1 : Array Value) (d1 : TypeDesc)
  (ha : tmps.getD a undef = .pointer (some ⟨g1, 0, none⟩)) (h1 : Blk w g1 t1 c1)
  (u1 : P.underlying t1 = some d1) (k1 : (match d1 with | .struct _ | .array _ _ => true | _ => false) = true) (i1 : (P.info? t1).map (·.size) = some c1.size) :
  (results fn tmps).run P w = .ok (.agg c1) w := by
 have ha' : tmps[a]?.getD undef = .pointer (some ⟨g1, 0, none⟩) := by simpa using ha
 simp [results, h, ha', asAddr, run_loadVar_row w g1 t1 t1 c1 (0, 0) d1 h1 u1 k1 i1]
theorem toenters_k (s : St) (w : World) : Calls Tryz.prog 181 #[stV s] w fun r w' => r = .returned (enV (entersT s)) ∧ Below w.heap.size w w' := by
 obtain ⟨e, r⟩ := s
 have hO : Own w _ [_, _] := ((Own.nil w).alloc 95 #[.int .i64 e, .bool r] _ rfl).alloc 89 #[.int .i64 0, .int .i64 0] _ rfl
 have hcl := hO.b0.cell
 cases r
 ·
  go_enter Tryz.func181, Tryz.ntmps181
  go_wp2_with fail
  replace hO : Own w _ [_, _] := Own.start2 w 95 89 #[.int .i64 e, .bool false] #[.int .i64 e, .int .i64 0]
  exact bodyPost_ret (results_c Tryz.results181 _ _ _ _ _ rfl hO.b1 Tryz.underlying89 rfl (by kernel_rfl)) rfl ⟨rfl, hO.below⟩
 ·
  go_enter Tryz.func181, Tryz.ntmps181
  go_wp2_with fail
  replace hO : Own w _ [_, _] := Own.start2 w 95 89 #[.int .i64 e, .bool true] #[.int .i64 e, .int .i64 1]
  exact bodyPost_ret (results_c Tryz.results181 _ _ _ _ _ rfl hO.b1 Tryz.underlying89 rfl (by kernel_rfl)) rfl ⟨rfl, hO.below⟩
theorem toleaves_k (s : St) (w : World) : Calls Tryz.prog 178 #[stV s] w fun r w' => r = .returned (enV (leavesT s)) ∧ Below w.heap.size w w' := by
 obtain ⟨e, r⟩ := s
 have hO1 : Own w _ [_, _] := Own.start2 w 95 89 #[.int .i64 e, .bool r] #[.int .i64 0, .int .i64 0]
 have hO : Own w _ [_, _] := Own.start2 w 95 89 #[.int .i64 e, .bool !r] #[.int .i64 0, .int .i64 0]
 have hcl := hO1.b0.cell
 have hce := fun W => toenters_k ⟨e, !r⟩ W
 unfold leavesT
 generalize hx : entersT ⟨e, !r⟩ = x at hce
 obtain ⟨xe, xa⟩ := x
 clear hx
 simp only [stV, enV] at hce ⊢
 go_enter Tryz.func178, Tryz.ntmps178
 go_wp2_with (first
  |(go_at_call 181; (with_reducible refine (hce _).mono ?_); rintro e2 w1 ⟨rfl, hb1⟩; replace hO := hO.grow hb1)
  |((with_reducible refine own_row1 (#[.int .i64 xe, .int .i64 xa]) hO rfl _ _ rfl rfl rfl (by kernel_rfl) rfl ?_ ?_); (· first | rfl | (simp [Value.oneCell']; done)); intro wR hOR hszR hkR; replace hO := hOR; clear hOR)
  )
 exact bodyPost_ret (results_c Tryz.results178 _ _ _ _ _ rfl hO.b1 Tryz.underlying89 rfl (by kernel_rfl)) rfl ⟨rfl, hO.below⟩
theorem tobal1_k (b : Bl) (id : Int) (A : Addr) (w : World) (hA : w.cell? A = some (.int .i64 id)) (hb : A.block < w.heap.size) : Calls Tryz.prog 98 #[blV b, .pointer (some A)] w fun r w' => r = .returned (.bool (decide (b.id = id))) ∧ Below w.heap.size w w' := by
 obtain ⟨b1, b2, b3⟩ := b
 have hO : Own w _ [_] := (Own.nil w).alloc 93 #[.int .i64 b1, .int .i64 b2, .int .i64 b3] _ rfl
 have hcl := hO.b0.cell
 have hA2 := (hO.below.cell (p := A) hb).trans hA
 go_enter Tryz.func98, Tryz.ntmps98
 go_wp2_with fail
 go_ret
 refine ⟨?_, hO.below⟩
 by_cases h : b1 = id <;> simp [h]
end Go.Proofs.YtkaggddmhjifjaaGreatDoor
set_option linter.unusedSimpArgs false
set_option linter.unusedVariables false
namespace Go.Proofs.YtkaggddmhjifjaaGreatDoor
open Go.RowKit Go.Shelf
def laysIdxBl_ren : Go.Shelf.Ren := ⟨fun | 6 => 97 | n => n, fun | 22 => 24 | 23 => 93 | 25 => 165 | 3 => 3 | 0 => 0 | 4 => 4 | n => n, fun | n => n⟩
theorem laysIdxBl : Go.Proofs.SlLaysH0.n6 Tryz.prog laysIdxBl_ren where
 mixed := by kernel_rfl
 f6 := ⟨ "slices.IndexFunc[[]lineside/api.Bal,lineside/api.Bal]", by decide, Tryz.func97.trans (congrArg some (by kernel_rfl))⟩
 t0 := Tryz.underlying0
 a0 := Tryz.isAgg0
 z0 := Tryz.sizeOf0
 v0 := Tryz.zeroValue0
 t3 := Tryz.underlying3
 a3 := Tryz.isAgg3
 z3 := Tryz.sizeOf3
 v3 := Tryz.zeroValue3
 t4 := Tryz.underlying4
 a4 := Tryz.isAgg4
 z4 := Tryz.sizeOf4
 v4 := Tryz.zeroValue4
 t22 := Tryz.underlying24
 a22 := Tryz.isAgg24
 z22 := Tryz.sizeOf24
 v22 := Tryz.zeroValue24
 t25 := Tryz.underlying165
 a25 := Tryz.isAgg165
 z25 := Tryz.sizeOf165
 v25 := Tryz.zeroValue165
instance : Inhabited Bl := ⟨⟨0, 0, 0⟩⟩
theorem enter_bal1 : ∀ args w, (callFunc 98 args).run Tryz.prog w = .ok (.enter 98 args) w := enters_of Tryz.func98 (by kernel_rfl) (by rfl)
theorem idxBl_k (A : Option Addr) (n c : Nat) (bs : List Bl) (id : Int) (p : Addr) (w : World) (hR : RowsAt encBl w A bs) (hn : bs.length = n) (hb : n ≤ 9223372036854775807) (hp : w.cell? p = some (.int .i64 id)) (hpb : p.block < w.heap.size) :
  Calls Tryz.prog 97 #[.slice A n c, .func (.func 98) #[] #[.pointer (some p)]] w fun e w' => e = .returned (.int .i64 (Lib.idxBy (fun _ y => decide (y.id = id)) bs default)) ∧ Below w.heap.size w w' := by
 cases n with
 | zero =>
  have : bs = [] := List.length_eq_zero_iff.1 hn
  subst this
  go_enter Tryz.func97, Tryz.ntmps97
  go_wp2
  go_loopg [5, 8] 0 (fun _ _ s8 wr => s8 = .int .i64 0 ∧ Below w.heap.size w wr)
  case atStart => exact ⟨rfl, Below.refl _ _⟩
  case round =>
   obtain ⟨rfl, hw⟩ := hrel
   go_wp2
   go_ret
   exact ⟨rfl, hw⟩
 | succ n =>
  have h0 : 0 < bs.length := by omega
  obtain ⟨b, off, rfl, hbs, _⟩ := hR.get (List.getElem?_eq_getElem h0)
  have := AnyQ.slices_IndexFunc laysIdxBl 3 Tryz.isAgg93 Tryz.sizeOf93 encBl.enc encBl.len (fun y => decide (y.id = id)) 98 #[.pointer (some p)] enter_bal1 b off (n + 1) c bs w
   (fun W x hW => (tobal1_k x id p W ((hW.cell (p := p) hpb).trans hp) (Nat.lt_of_lt_of_le hpb hW.size)).mono fun _ _ h => ⟨h.1, below_then hW h.2⟩) (by omega) hb hbs ?_
  ·
   rw [← hn, List.take_length] at this
   rw [← hn]
   exact this
  ·
   intro j hj i u hi
   obtain ⟨b', off', e, _, hc⟩ := hR.get (List.getElem?_eq_getElem hj)
   simp only [Option.some.injEq, Addr.mk.injEq] at e
   obtain ⟨rfl, rfl, -⟩ := e
   rw [getElem!_pos bs j hj] at hi
   exact hc i u hi
theorem idx_find (q : Bl → Bool) : ∀ (bs : List Bl) (i : Nat), (∃ j, Lib.idxByFrom (fun _ y => q y) default bs i = ((i + j : Nat) : Int) ∧ bs[j]? = bs.find? q ∧ (bs.find? q).isSome = true) ∨ (Lib.idxByFrom (fun _ y => q y) default bs i = -1 ∧ bs.find? q = none)
 | [], i => .inr ⟨rfl, rfl⟩
 | y :: bs, i => by
  rw [Lib.idxByFrom, List.find?_cons]
  cases hq : q y with
  | true => exact .inl ⟨0, by simp, by simp, rfl⟩
  | false =>
   simp only [Bool.false_eq_true, if_false]
   rcases idx_find q bs (i + 1) with ⟨j, h1, h2, h3⟩ | h
   ·
    exact .inl ⟨j + 1, by rw [h1]; congr 1; omega, by rw [List.getElem?_cons_succ]; exact h2, h3⟩
   ·
    exact .inr h
theorem results_ct1 {P : Program} {fn : Func} {a c : Tmp} {t1 : TypeId} (h : fn.results = #[.cell a t1, .tmp c]) (tmps : Array Value) (w : World) (g1 : Nat) (c1 : Array Value) (v : Value) (d1 : TypeDesc)
  (ha : tmps.getD a undef = .pointer (some ⟨g1, 0, none⟩)) (hc : tmps.getD c undef = v) (h1 : Blk w g1 t1 c1)
  (u1 : P.underlying t1 = some d1) (k1 : (match d1 with | .struct _ | .array _ _ => true | _ => false) = true) (i1 : (P.info? t1).map (·.size) = some c1.size) :
  (results fn tmps).run P w = .ok (.tuple #[.agg c1, v]) w := by
 have ha' : tmps[a]?.getD undef = .pointer (some ⟨g1, 0, none⟩) := by simpa using ha
 have hc' : tmps[c]?.getD undef = v := by simpa using hc
 simp [results, h, ha', hc', asAddr, run_loadVar_row w g1 t1 t1 c1 (0, 0) d1 h1 u1 k1 i1]
set_option maxHeartbeats 2000000 in
theorem tobal_k (t : Tp) (v : TpV) (id : Int) (w : World) (hT : RowsAt encBl w v.Ab t.bals) (hn : t.bals.length ≤ 9223372036854775807) : Calls Tryz.prog 50 #[.agg (v.cells t), .int .i64 id] w fun r w' => r = .returned (.tuple #[blV ((balT t id).getD ⟨0, 0, 0⟩), .bool (balT t id).isSome]) ∧ Below w.heap.size w w' := by
 unfold TpV.cells
 have hfind := idx_find (fun b => decide (b.id = id)) t.bals 0
 have hB : (t.bals.find? fun b => decide (b.id = id)) = balT t id := rfl
 rw [hB] at hfind
 generalize balT t id = r at hfind ⊢
 obtain ⟨bs, hbs⟩ : ∃ bs, bs = t.bals := ⟨_, rfl⟩
 rw [← hbs] at hT hn hfind ⊢
 generalize hm : bs.length = n3 at hn ⊢
 generalize t.edges.length = n1
 generalize t.joints.length = n2
 generalize t.routes.length = n4
 obtain ⟨A1, c1, A2, c2, A3, c3, A4, c4, rs⟩ := v
 simp only at hT ⊢
 clear hbs hB
 have hO : Own w _ [_, _, _] := Own.start3 w 27 3 93 #[.slice A1 n1 c1, .slice A2 n2 c2, .slice A3 n3 c3, .slice A4 n4 c4] #[.int .i64 id] #[.int .i64 0, .int .i64 0, .int .i64 0]
 have hcl := hO.b0.cell
 have hid := hO.b1.cell 0
 have hcall := idxBl_k A3 n3 c3 bs id ⟨w.heap.size + 1, 0, none⟩ _ (hT.below hO.below) hm hn hid hO.b1.lt
 unfold Lib.idxBy at hcall
 rcases hfind with ⟨j, h1, h2, h3⟩ | ⟨h1, h2⟩
 ·
  obtain ⟨b, rfl⟩ := Option.isSome_iff_exists.1 h3
  rw [h1, Nat.zero_add] at hcall
  have hj : j < n3 := by rw [← hm]; exact (List.getElem?_eq_some_iff.1 h2).1
  obtain ⟨g, off, rfl, hg, l0, l1, l2⟩ := hT.bl h2
  obtain ⟨b1, b2, b3⟩ := b
  simp only at l0 l1 l2
  have k0 := fun W (hW : Below w.heap.size w W) => (hW.cell (p := ⟨g, off + j * 3, none⟩) hg).trans l0
  have k1 := fun W (hW : Below w.heap.size w W) => (hW.cell (p := ⟨g, off + j * 3 + 1, none⟩) hg).trans l1
  have k2 := fun W (hW : Below w.heap.size w W) => (hW.cell (p := ⟨g, off + j * 3 + 2, none⟩) hg).trans l2
  clear h1 h2 h3 hT l0 l1 l2 hm
  go_enter Tryz.func50, Tryz.ntmps50
  go_wp2_with (first
   |(go_at_call 97; (with_reducible refine hcall.mono ?_); rintro e w1 ⟨rfl, hb1⟩; replace hO := hO.grow hb1; have hcl1 := hO.b0.cell; have m0 := k0 w1 hO.below; have m1 := k1 w1 hO.below; have m2 := k2 w1 hO.below)
   |((with_reducible refine own_row2 (#[.int .i64 b1, .int .i64 b2, .int .i64 b3]) hO rfl _ _ rfl rfl rfl (by kernel_rfl) rfl ?_ ?_); (· first | rfl | (simp [Value.oneCell']; done)); intro wR hOR hszR hkR; replace hO := hOR; clear hOR)
   )
  exact bodyPost_ret (results_ct1 Tryz.results50 _ _ _ _ _ _ rfl rfl hO.b2 Tryz.underlying93 rfl (by kernel_rfl)) rfl ⟨rfl, hO.below⟩
 ·
  subst h2
  rw [h1] at hcall
  clear h1 hT hm
  go_enter Tryz.func50, Tryz.ntmps50
  go_wp2_with (first
   |(go_at_call 97; (with_reducible refine hcall.mono ?_); rintro e w1 ⟨rfl, hb1⟩; replace hO := hO.grow hb1)
   |((with_reducible refine own_row2 (#[.int .i64 0, .int .i64 0, .int .i64 0]) hO rfl _ _ rfl rfl rfl (by kernel_rfl) rfl ?_ ?_); (· first | rfl | (simp [Value.oneCell']; done)); intro wR hOR hszR hkR; replace hO := hOR; clear hOR)
   )
  exact bodyPost_ret (results_ct1 Tryz.results50 _ _ _ _ _ _ rfl rfl hO.b2 Tryz.underlying93 rfl (by kernel_rfl)) rfl ⟨rfl, hO.below⟩
end Go.Proofs.YtkaggddmhjifjaaGreatDoor
set_option linter.unusedSimpArgs false
set_option linter.unusedVariables false
namespace Go.Proofs.YtkaggddmhjifjaaGreatDoor
open Go.RowKit Go.Shelf
def laysHasJt_ren : Go.Shelf.Ren := ⟨fun | 7 => 173 | 6 => 233 | n => n, fun | 22 => 23 | 24 => 91 | 4 => 4 | 0 => 0 | 3 => 3 | n => n, fun | n => n⟩
theorem laysHasJt : Go.Proofs.SlLaysQ.n7 Tryz.prog laysHasJt_ren where
 mixed := by kernel_rfl
 f6 := ⟨ "slices.Index[[]lineside/api.Joint,lineside/api.Joint]", by decide, Tryz.func233.trans (congrArg some (by kernel_rfl))⟩
 f7 := ⟨ "slices.Contains[[]lineside/api.Joint,lineside/api.Joint]", by decide, Tryz.func173.trans (congrArg some (by kernel_rfl))⟩
 t0 := Tryz.underlying0
 a0 := Tryz.isAgg0
 z0 := Tryz.sizeOf0
 v0 := Tryz.zeroValue0
 t3 := Tryz.underlying3
 a3 := Tryz.isAgg3
 z3 := Tryz.sizeOf3
 v3 := Tryz.zeroValue3
 t4 := Tryz.underlying4
 a4 := Tryz.isAgg4
 z4 := Tryz.sizeOf4
 v4 := Tryz.zeroValue4
 t22 := Tryz.underlying23
 a22 := Tryz.isAgg23
 z22 := Tryz.sizeOf23
 v22 := Tryz.zeroValue23
instance : Inhabited Jt := ⟨⟨⟨0, 0⟩, ⟨0, 0⟩⟩⟩
def eqJt (x y : Jt) : Bool := (x.a.edge == y.a.edge && x.a.at_ == y.a.at_) && (x.b.edge == y.b.edge && x.b.at_ == y.b.at_)
theorem eqlJt : EqlAt Tryz.prog 91 (fun x => .agg (encJt.enc x).toArray) eqJt := by
 refine ⟨fun x y w => ?_, GuardAt.agg _ (by kernel_rfl)⟩
 have u3 := Tryz.underlying3
 have a3 := Tryz.isAgg3
 have z3 := Tryz.sizeOf3
 have uE := Tryz.underlying89
 have aE := Tryz.isAgg89
 have zE := Tryz.sizeOf89
 have hS : Tryz.prog.underlying 91 = some (.struct (Tryz.prog.fieldsOf 91)) := by kernel_rfl
 have hp : Tryz.prog.stoodInHeld 91 = false := by kernel_rfl
 have hSE : Tryz.prog.underlying 89 = some (.struct (Tryz.prog.fieldsOf 89)) := by kernel_rfl
 have hpE : Tryz.prog.stoodInHeld 89 = false := by kernel_rfl
 simp only [encJt]
 rw [run_eql_struct, show (10000 : Nat) = 9998 + 1 + 1 from rfl, run_equalIn_agg w (9998 + 1) 91 _ _ hS hp]
 simp only [Program.fieldsOf, Tryz.underlying91]
 have hE := fun c1 c2 => run_equalIn_agg w 9998 89 c1 c2 hSE hpE
 simp only [Program.fieldsOf, Tryz.underlying89] at hE
 go_simp
 obtain ⟨⟨x1, x2⟩, ⟨x3, x4⟩⟩ := x
 obtain ⟨⟨y1, y2⟩, ⟨y3, y4⟩⟩ := y
 unfold eqJt
 by_cases h1 : x1 = y1 <;> by_cases h2 : x2 = y2 <;> by_cases h3 : x3 = y3 <;> by_cases h4 : x4 = y4 <;> simp [h1, h2, h3, h4]
theorem idxJt0 (A : Option Addr) (c : Nat) (x : Jt) (w : World) : Calls Tryz.prog 233 #[.slice A 0 c, .agg (encJt.enc x).toArray] w fun e w' => e = .returned (.int .i64 (-1)) ∧ Below w.heap.size w w' := by
 have hO : Own w _ [_] := (Own.nil w).alloc 91 (encJt.enc x).toArray _ rfl
 go_enter Tryz.func233, Tryz.ntmps233
 go_wp2
 go_loopg [5, 8] 0 (fun _ _ s8 wr => s8 = .int .i64 0 ∧ Below w.heap.size w wr)
 case atStart => exact ⟨rfl, hO.below⟩
 case round =>
  obtain ⟨rfl, hw⟩ := hrel
  go_wp2
  go_ret
  exact ⟨rfl, hw⟩
theorem hasJt_k (A : Option Addr) (n c : Nat) (js : List Jt) (x : Jt) (w : World) (hR : RowsAt encJt w A js) (hn : js.length = n) (hb : n ≤ 9223372036854775807) :
  Calls Tryz.prog 173 #[.slice A n c, .agg (encJt.enc x).toArray] w fun e w' => e = .returned (.bool (js.any fun y => eqJt x y)) ∧ Below w.heap.size w w' := by
 cases n with
 | zero =>
  have : js = [] := List.length_eq_zero_iff.1 hn
  subst this
  have hO : Own w _ [_] := (Own.nil w).alloc 91 (encJt.enc x).toArray _ rfl
  have hcl := hO.b0.cell
  have h0 := fun W => idxJt0 A c x W
  simp only [encJt] at *
  go_enter Tryz.func173, Tryz.ntmps173
  go_wp2_with (first
   |(go_at_call 233; (with_reducible refine (h0 _).mono ?_); rintro e w1 ⟨rfl, hb1⟩; replace hO := hO.grow hb1))
  go_ret
  exact ⟨rfl, hO.below⟩
 | succ n =>
  have h0 : 0 < js.length := by omega
  obtain ⟨b, off, rfl, hbs, _⟩ := hR.get (List.getElem?_eq_getElem h0)
  have := AnyQ.slices_Contains laysHasJt 4 Tryz.isAgg91 Tryz.sizeOf91 encJt.enc encJt.len eqJt eqlJt b off (n + 1) c js x w (by omega) hb ?_
  ·
   rw [← hn, List.take_length] at this
   rw [← hn]
   exact this
  ·
   intro j hj i u hi
   obtain ⟨b', off', e, _, hc⟩ := hR.get (List.getElem?_eq_getElem hj)
   simp only [Option.some.injEq, Addr.mk.injEq] at e
   obtain ⟨rfl, rfl, -⟩ := e
   rw [getElem!_pos js j hj] at hi
   exact hc i u hi
theorem eqJt_is (x y : Jt) : eqJt x y = decide (x = y) := by
 obtain ⟨⟨x1, x2⟩, ⟨x3, x4⟩⟩ := x
 obtain ⟨⟨y1, y2⟩, ⟨y3, y4⟩⟩ := y
 unfold eqJt
 by_cases h1 : x1 = y1 <;> by_cases h2 : x2 = y2 <;> by_cases h3 : x3 = y3 <;> by_cases h4 : x4 = y4 <;> simp [h1, h2, h3, h4]
theorem any_is (js : List Jt) (x : Jt) : (js.any fun y => eqJt x y) = decide (x ∈ js) := by
 rw [Bool.eq_iff_iff]
 simp [eqJt_is]
set_option maxHeartbeats 2000000 in
theorem tojoins_k (t : Tp) (v : TpV) (a b : En) (w : World) (hR : RowsAt encJt w v.Aj t.joints) (hn : t.joints.length ≤ 9223372036854775807) : Calls Tryz.prog 122 #[.agg (v.cells t), enV a, enV b] w fun r w' => r = .returned (.bool (joinsT t.joints a b)) ∧ Below w.heap.size w w' := by
 unfold TpV.cells joinsT
 have h1 := fun W (hW : Below w.heap.size w W) => hasJt_k v.Aj t.joints.length v.cj t.joints ⟨a, b⟩ W (hR.below hW) rfl hn
 have h2 := fun W (hW : Below w.heap.size w W) => hasJt_k v.Aj t.joints.length v.cj t.joints ⟨b, a⟩ W (hR.below hW) rfl hn
 simp only [any_is] at h1 h2
 generalize decide (⟨a, b⟩ ∈ t.joints) = r1 at h1 ⊢
 generalize decide (⟨b, a⟩ ∈ t.joints) = r2 at h2 ⊢
 generalize t.joints.length = n2 at *
 generalize t.edges.length = n1
 generalize t.bals.length = n3
 generalize t.routes.length = n4
 obtain ⟨A1, c1, A2, c2, A3, c3, A4, c4, rs⟩ := v
 obtain ⟨a1, a2⟩ := a
 obtain ⟨b1, b2⟩ := b
 simp only [encJt] at h1 h2 ⊢
 clear hR hn
 have hO : Own w _ [_, _, _] := Own.start3 w 27 89 89 #[.slice A1 n1 c1, .slice A2 n2 c2, .slice A3 n3 c3, .slice A4 n4 c4] #[.int .i64 a1, .int .i64 a2] #[.int .i64 b1, .int .i64 b2]
 have hcl := hO.b0.cell
 have hcl1 := hO.b1.cell
 have hcl2 := hO.b2.cell
 cases r1
 ·
  go_enter Tryz.func122, Tryz.ntmps122
  go_wp2_with (first
   |(go_at_call 173; (with_reducible refine (h1 _ hO.below).mono ?_); rintro e w1 ⟨rfl, hb1⟩; replace hO := hO.grow hb1; have hcl3 := hO.b0.cell; have hcl4 := hO.b1.cell; have hcl5 := hO.b2.cell)
   |(go_at_call 173; (with_reducible refine (h2 _ hO.below).mono ?_); rintro e w2 ⟨rfl, hb2⟩; replace hO := hO.grow hb2)
   )
  go_ret
  exact ⟨by simp, hO.below⟩
 ·
  go_enter Tryz.func122, Tryz.ntmps122
  go_wp2_with (first
   |(go_at_call 173; (with_reducible refine (h1 _ hO.below).mono ?_); rintro e w1 ⟨rfl, hb1⟩; replace hO := hO.grow hb1; have hcl3 := hO.b0.cell; have hcl4 := hO.b1.cell; have hcl5 := hO.b2.cell)
   )
  go_ret
  exact ⟨by simp, hO.below⟩
end Go.Proofs.YtkaggddmhjifjaaGreatDoor
set_option linter.unusedSimpArgs false
set_option linter.unusedVariables false
namespace Go.Proofs.YtkaggddmhjifjaaGreatDoor
open Go.RowKit
set_option maxRecDepth 8000 in
set_option maxHeartbeats 2000000 in
theorem tomay_k (t : Tp) (v : TpV) (a b : St) (w : World) (hR : RowsAt encJt w v.Aj t.joints) (hn : t.joints.length ≤ 9223372036854775807) : Calls Tryz.prog 226 #[.agg (v.cells t), stV a, stV b] w fun r w' => r = .returned (.bool (mayT t a b)) ∧ Below w.heap.size w w' := by
 have hj := fun W (hW : Below w.heap.size w W) => tojoins_k t v (leavesT a) (entersT b) W (hR.below hW) hn
 have hl := fun W => toleaves_k a W
 have he := fun W => toenters_k b W
 unfold mayT
 unfold TpV.cells at hj ⊢
 generalize joinsT t.joints (leavesT a) (entersT b) = r at hj ⊢
 generalize leavesT a = la at *
 generalize entersT b = eb at *
 clear hR hn
 generalize t.joints.length = n2 at *
 generalize t.edges.length = n1 at *
 generalize t.bals.length = n3 at *
 generalize t.routes.length = n4 at *
 obtain ⟨A1, c1, A2, c2, A3, c3, A4, c4, rs⟩ := v
 obtain ⟨a1, a2⟩ := a
 obtain ⟨b1, b2⟩ := b
 obtain ⟨l1, l2⟩ := la
 obtain ⟨e1, e2⟩ := eb
 simp only [stV, enV] at hj hl he ⊢
 go_enter Tryz.func226, Tryz.ntmps226
 go_wp2_with fail
 have hO : Own w _ [_, _, _] := Own.start3 w 27 95 95 #[.slice A1 n1 c1, .slice A2 n2 c2, .slice A3 n3 c3, .slice A4 n4 c4] #[.int .i64 a1, .bool a2] #[.int .i64 b1, .bool b2]
 generalize (((w.alloc (.cells #[.slice A1 n1 c1, .slice A2 n2 c2, .slice A3 n3 c3, .slice A4 n4 c4] 27)).alloc (.cells #[.int .i64 a1, .bool a2] 95)).alloc (.cells #[.int .i64 b1, .bool b2] 95)) = W0 at hO ⊢
 apply wp_region_lex
 case hFl =>
  intro u
  simp only [List.map, fill, Act.put, List.setIfInBounds_toArray, List.set_cons_zero, List.set_cons_succ, Nat.reduceAdd, Nat.zero_add]
  rfl
 case hm => kernel_rfl
 case hB => kernel_rfl
 case hap => kernel_rfl
 apply Lex.is
 ·
  (
   intro u w' hk hd
   simp [Waited, Region.binds, Is] at hd
   refine looked_want (by first | rfl | simp [Region.wanted, yielded, hd]) ?_
   intro K hK
   have hc0 := (hO.grow hk).b0.cell
   have hc1 := (hO.grow hk).b1.cell
   have hc2 := (hO.grow hk).b2.cell
   go_wp2_with (fail)
   try simp only [hd] at hK
   refine hK _ _ ?_ rfl
   first | exact Below.refl _ _ | exact hb3)
 apply Lex.is
 ·
  (
   intro u w' hk hd
   simp [Waited, Region.binds, Is] at hd
   refine looked_want (by first | rfl | simp [Region.wanted, yielded, hd]) ?_
   intro K hK
   have hc0 := (hO.grow hk).b0.cell
   have hc1 := (hO.grow hk).b1.cell
   have hc2 := (hO.grow hk).b2.cell
   go_wp2_with (fail)
   try simp only [hd] at hK
   refine hK _ _ ?_ rfl
   first | exact Below.refl _ _ | exact hb3)
 apply Lex.is
 ·
  (
   intro u w' hk hd
   simp [Waited, Region.binds, Is] at hd
   refine looked_want (by first | rfl | simp [Region.wanted, yielded, hd]) ?_
   intro K hK
   have hc0 := (hO.grow hk).b0.cell
   have hc1 := (hO.grow hk).b1.cell
   have hc2 := (hO.grow hk).b2.cell
   go_wp2_with (go_at_call 178; (with_reducible refine (hl _).mono ?_); rintro e w3 ⟨rfl, hb3⟩)
   try simp only [hd] at hK
   refine hK _ _ ?_ rfl
   first | exact Below.refl _ _ | exact hb3)
 apply Lex.is
 ·
  (
   intro u w' hk hd
   simp [Waited, Region.binds, Is] at hd
   refine looked_want (by first | rfl | simp [Region.wanted, yielded, hd]) ?_
   intro K hK
   have hc0 := (hO.grow hk).b0.cell
   have hc1 := (hO.grow hk).b1.cell
   have hc2 := (hO.grow hk).b2.cell
   go_wp2_with (fail)
   try simp only [hd] at hK
   refine hK _ _ ?_ rfl
   first | exact Below.refl _ _ | exact hb3)
 apply Lex.is
 ·
  (
   intro u w' hk hd
   simp [Waited, Region.binds, Is] at hd
   refine looked_want (by first | rfl | simp [Region.wanted, yielded, hd]) ?_
   intro K hK
   have hc0 := (hO.grow hk).b0.cell
   have hc1 := (hO.grow hk).b1.cell
   have hc2 := (hO.grow hk).b2.cell
   go_wp2_with (go_at_call 181; (with_reducible refine (he _).mono ?_); rintro e w3 ⟨rfl, hb3⟩)
   try simp only [hd] at hK
   refine hK _ _ ?_ rfl
   first | exact Below.refl _ _ | exact hb3)
 apply Lex.is
 ·
  (
   intro u w' hk hd
   simp [Waited, Region.binds, Is] at hd
   refine looked_want (by first | rfl | simp [Region.wanted, yielded, hd]) ?_
   intro K hK
   have hc0 := (hO.grow hk).b0.cell
   have hc1 := (hO.grow hk).b1.cell
   have hc2 := (hO.grow hk).b2.cell
   go_wp2_with (go_at_call 122; (with_reducible refine (hj _ (hO.grow hk).below).mono ?_); rintro e w3 ⟨rfl, hb3⟩)
   try simp only [hd] at hK
   refine hK _ _ ?_ rfl
   first | exact Below.refl _ _ | exact hb3)
 apply Lex.is
 ·
  (
   intro u w' hk hd
   simp [Waited, Region.binds, Is] at hd
   refine looked_want (by first | rfl | simp [Region.wanted, yielded, hd]) ?_
   intro K hK
   have hc0 := (hO.grow hk).b0.cell
   have hc1 := (hO.grow hk).b1.cell
   have hc2 := (hO.grow hk).b2.cell
   go_wp2_with (fail)
   try simp only [hd] at hK
   refine hK _ _ ?_ rfl
   first | exact Below.refl _ _ | exact hb3)
 apply Lex.nil
 intro u w' hk hd
 simp only [List.nil_append, List.cons_append] at hd
 have hlast := hd 6 _ rfl
 simp only [Is] at hlast
 clear hd
 go_wp2_with fail
 go_ret
 exact ⟨congrArg Ending.returned hlast, below_then hO.below hk⟩
end Go.Proofs.YtkaggddmhjifjaaGreatDoor
set_option linter.unusedSimpArgs false
set_option linter.unusedVariables false
namespace Go.Proofs.YtkaggddmhjifjaaGreatDoor
open Go.RowKit
theorem toend_k (t : Tp) (v : TpV) (x : En) (w : World) : Calls Tryz.prog 121 #[.agg (v.cells t), enV x] w fun r w' => r = .returned (.bool (endT t x)) ∧ Below w.heap.size w w' := by
 have ht := fun W => tothere_k t v x.edge W
 unfold endT
 unfold TpV.cells at ht ⊢
 generalize thereT t x.edge = r at ht ⊢
 generalize t.joints.length = n2 at *
 generalize t.edges.length = n1 at *
 generalize t.bals.length = n3 at *
 generalize t.routes.length = n4 at *
 obtain ⟨A1, c1, A2, c2, A3, c3, A4, c4, rs⟩ := v
 obtain ⟨e, a⟩ := x
 simp only [enV] at ht ⊢
 have hO : Own w _ [_, _] := Own.start2 w 27 89 #[.slice A1 n1 c1, .slice A2 n2 c2, .slice A3 n3 c3, .slice A4 n4 c4] #[.int .i64 e, .int .i64 a]
 have hcl := hO.b0.cell
 have hcl1 := hO.b1.cell
 by_cases h0 : a = 0
 ·
  subst h0
  cases r
  all_goals
   go_enter Tryz.func121, Tryz.ntmps121
   go_wp2_with (first
    |(go_at_call 123; (with_reducible refine (ht _).mono ?_); rintro e w1 ⟨rfl, hb1⟩; replace hO := hO.grow hb1; have hcl3 := hO.b1.cell))
   go_ret
   exact ⟨by simp, hO.below⟩
 ·
  cases r
  all_goals
   go_enter Tryz.func121, Tryz.ntmps121
   go_wp2_with (first
    |(go_at_call 123; (with_reducible refine (ht _).mono ?_); rintro e w1 ⟨rfl, hb1⟩; replace hO := hO.grow hb1; have hcl3 := hO.b1.cell))
   go_ret
   refine ⟨?_, hO.below⟩
   by_cases h1 : a = 1 <;> simp [h0, h1]
end Go.Proofs.YtkaggddmhjifjaaGreatDoor
set_option linter.unusedSimpArgs false
set_option linter.unusedVariables false
namespace Go.Proofs.YtkaggddmhjifjaaGreatDoor
open Go.RowKit
theorem way_iff (t : Tp) : ∀ p : List St, wayT t p = true ↔ ∀ j a b, p[j]? = some a → p[j + 1]? = some b → mayT t a b = true
 | [] => by simp [wayT]
 | [x] => by
  simp only [wayT, true_iff]
  intro j a b _ h
  simp at h
 | x :: y :: p => by
  rw [wayT, Bool.and_eq_true, way_iff t (y :: p)]
  constructor
  ·
   rintro ⟨h1, h2⟩ j a b ha hb
   cases j with
   | zero =>
    simp at ha hb
    rw [← ha, ← hb]
    exact h1
   | succ j => exact h2 j a b (by simpa using ha) (by simpa using hb)
  ·
   intro h
   exact ⟨h 0 x y rfl rfl, fun j a b ha hb => h (j + 1) a b (by simpa using ha) (by simpa using hb)⟩
theorem way_no {t : Tp} {p : List St} {j : Nat} {a b : St} (ha : p[j]? = some a) (hb : p[j + 1]? = some b) (h : mayT t a b = false) : wayT t p = false := by
 cases hw : wayT t p with
 | false => rfl
 | true =>
  have := (way_iff t p).1 hw j a b ha hb
  rw [h] at this
  cases this
open Go.RowKit
section
variable {P : Program} {ops : Array Oper} {rest : List Oper} {o : Oper} {a : Act} {w W : World} {Q : Exit → Act → World → Prop}
theorem Own.new1 {x0 : Bk} (h : Own w W [x0]) (t : TypeId) (cs : Array Value) : Own w (W.alloc (.cells cs t)) [x0, (W.heap.size, t, cs)] := h.alloc t cs _ rfl
theorem Own.b9 {x0 x1 x2 x3 x4 x5 x6 x7 x8 : Bk} {L : List Bk} {g : Nat} {t : TypeId} {cs : Array Value} (hO : Own w W (x0 :: x1 :: x2 :: x3 :: x4 :: x5 :: x6 :: x7 :: x8 :: (g, t, cs) :: L)) : Blk W g t cs := Own.at_ (L1 := [x0, x1, x2, x3, x4, x5, x6, x7, x8]) hO
end
def is8 : Value → Bool
 | .int .u8 _ => true
 | _ => false
theorem Bytes.apart {w w' : World} {A : Option Addr} {c : Nat} {bs : List UInt8} {g : Nat} {t : TypeId} {cs : Array Value} (h : Bytes w A c bs) (hb : Blk w g t cs) (hn : cs.all (fun v => !is8 v) = true) (hz : w'.heap.size = w.heap.size) (hk : ∀ k, k ≠ g → w'.heap[k]? = w.heap[k]?) : Bytes w' A c bs := by
 refine ⟨fun h0 => ?_, h.cap, h.max⟩
 have h1 : 0 < bs.length := by rwa [cellsOf_length] at h0
 obtain ⟨b, off, rfl, hlt, hc⟩ := h.row h0
 have hne : b ≠ g := by
  rintro rfl
  have h2 := hc 0 _ (cellsOf_at bs 0 h1)
  rw [hb.cell] at h2
  rw [Array.all_eq_true] at hn
  obtain ⟨hi, e⟩ := Array.getElem?_eq_some_iff.1 h2
  have := hn _ hi
  rw [e] at this
  simp [is8, q8] at this
 refine ⟨b, off, rfl, by rw [hz]; exact hlt, fun j u hu => ?_⟩
 rw [World.cell?_of_block (hk b hne)]
 exact hc j u hu
end Go.Proofs.YtkaggddmhjifjaaGreatDoor
set_option linter.unusedSimpArgs false
set_option linter.unusedVariables false
namespace Go.Proofs.YtkaggddmhjifjaaGreatDoor
open Go.RowKit
theorem drop_cons {α : Type} {l : List α} {k : Nat} {x : α} (h : l[k]? = some x) : l.drop k = x :: l.drop (k + 1) := by
 obtain ⟨hk, rfl⟩ := List.getElem?_eq_some_iff.1 h
 exact List.drop_eq_getElem_cons hk
theorem take_snoc' {α : Type} {l : List α} {k : Nat} {x : α} (h : l[k]? = some x) : l.take (k + 1) = l.take k ++ [x] := by
 obtain ⟨hk, rfl⟩ := List.getElem?_eq_some_iff.1 h
 exact List.take_succ_eq_append_getElem hk
theorem get_some {α : Type} {l : List α} {k n : Nat} (hn : l.length = n) (h : k < n) : ∃ x, l[k]? = some x := ⟨l[k]'(by omega), List.getElem?_eq_getElem (by omega)⟩
theorem RowsAt.part {α : Type} {E : Laid α} {w : World} {A : Option Addr} {xs : List α} (h : RowsAt E w A xs) (i : Nat) : RowsAt E w A (xs.take i) := by
 cases A with
 | none =>
  have h0 : xs = [] := by
   cases xs with
   | nil => rfl
   | cons x xs => obtain ⟨b, off, e, _⟩ := h.get (i := 0) rfl; cases e
  subst h0
  rw [List.take_nil]
  exact RowsAt.nil _ _
 | some a =>
  cases xs with
  | nil =>
   rw [List.take_nil]
   exact RowsAt.nil _ _
  | cons x xs =>
   obtain ⟨b, off, e, _⟩ := h.get (i := 0) rfl
   cases e
   exact h.take i
structure TpM where
 A1 : Option Addr
 n1 : Nat
 c1 : Nat
 A2 : Option Addr
 n2 : Nat
 c2 : Nat
 A3 : Option Addr
 n3 : Nat
 c3 : Nat
 A4 : Option Addr
 n4 : Nat
 c4 : Nat
 rs : List (Rt × Option Addr × Nat)
def TpM.cells (m : TpM) : Array Value := #[.slice m.A1 m.n1 m.c1, .slice m.A2 m.n2 m.c2, .slice m.A3 m.n3 m.c3, .slice m.A4 m.n4 m.c4]
def TpM.v (m : TpM) : TpV := ⟨m.A1, m.c1, m.A2, m.c2, m.A3, m.c3, m.A4, m.c4, m.rs⟩
structure TpIs (w : World) (t : Tp) (m : TpM) : Prop where
 lies : TpAt w t m.A1 m.A2 m.A3 m.A4 m.rs
 e1 : t.edges.length = m.n1
 e2 : t.joints.length = m.n2
 e3 : t.bals.length = m.n3
 e4 : t.routes.length = m.n4
 l1 : m.n1 ≤ 100
 l2 : m.n2 ≤ 100
 l3 : m.n3 ≤ 100
 l4 : m.n4 ≤ 100
 l5 : ∀ r ∈ t.routes, r.path.length ≤ 100
 q1 : m.n1 ≤ m.c1
 q2 : m.n2 ≤ m.c2
 q3 : m.n3 ≤ m.c3
 q4 : m.n4 ≤ m.c4
 q5 : ∀ p ∈ m.rs, p.1.path.length ≤ p.2.2
theorem TpIs.below {w w' : World} {t : Tp} {m : TpM} (h : TpIs w t m) (hb : Below w.heap.size w w') : TpIs w' t m :=
 { h with lies := h.lies.below hb }
theorem TpIs.cells {w : World} {t : Tp} {m : TpM} (h : TpIs w t m) : m.v.cells t = m.cells := by
 unfold TpV.cells TpM.cells TpM.v
 rw [h.e1, h.e2, h.e3, h.e4]
section
variable {w : World} {t : Tp} {m : TpM}
theorem there_m (h : TpIs w t m) (e : Int) (W : World) : Calls Tryz.prog 123 #[.agg m.cells, .int .i64 e] W fun r w' => r = .returned (.bool (thereT t e)) ∧ Below W.heap.size W w' := by
 rw [← h.cells]
 exact tothere_k t m.v e W
theorem joins_m (h : TpIs w t m) (a b : En) : Calls Tryz.prog 122 #[.agg m.cells, enV a, enV b] w fun r w' => r = .returned (.bool (joinsT t.joints a b)) ∧ Below w.heap.size w w' := by
 rw [← h.cells]
 exact tojoins_k t m.v a b w h.lies.joints (by have := h.l2; rw [h.e2]; omega)
theorem may_m (h : TpIs w t m) (a b : St) : Calls Tryz.prog 226 #[.agg m.cells, stV a, stV b] w fun r w' => r = .returned (.bool (mayT t a b)) ∧ Below w.heap.size w w' := by
 rw [← h.cells]
 exact tomay_k t m.v a b w h.lies.joints (by have := h.l2; rw [h.e2]; omega)
theorem end_m (h : TpIs w t m) (x : En) (W : World) : Calls Tryz.prog 121 #[.agg m.cells, enV x] W fun r w' => r = .returned (.bool (endT t x)) ∧ Below W.heap.size W w' := by
 rw [← h.cells]
 exact toend_k t m.v x W
theorem bal_m (h : TpIs w t m) (id : Int) : Calls Tryz.prog 50 #[.agg m.cells, .int .i64 id] w fun r w' => r = .returned (.tuple #[blV ((balT t id).getD ⟨0, 0, 0⟩), .bool (balT t id).isSome]) ∧ Below w.heap.size w w' := by
 rw [← h.cells]
 exact tobal_k t m.v id w h.lies.bals (by have := h.l3; rw [h.e3]; omega)
end
end Go.Proofs.YtkaggddmhjifjaaGreatDoor
