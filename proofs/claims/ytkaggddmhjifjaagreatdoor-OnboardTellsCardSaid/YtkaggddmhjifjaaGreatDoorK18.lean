/- Texts in one: BoardCopy MapOwn StepW StepB. -/
import Derived.Test.YtkaggddmhjifjaaGreatDoorK14
import Derived.Test.YtkaggddmhjifjaaGreatDoorK06
import Derived.Maps.OwnSet
import Derived.Carry
import Derived.MapKept
import Derived.Test.YtkaggddmhjifjaaGreatDoorK17
import Derived.Deep.MidRow
set_option linter.unusedSimpArgs false
set_option linter.unusedVariables false
namespace Go.Proofs.YtkaggddmhjifjaaGreatDoor
open Go.RowKit Go.Shelf
structure TrOwn (w : World) (base : Nat) (x : Tr) (m : TrM) : Prop where
 path : OwnRows encSt 95 w base m.v.A1 m.v.c1 x.ma.path
 sects : OwnRows encSc 122 w base m.v.A2 m.v.c2 x.ma.sects
 stops : OwnRows encI 3 w base m.A3 m.c3 x.stops
 e1 : x.ma.path.length = m.v.n1
 e2 : x.ma.sects.length = m.v.n2
 e3 : x.stops.length = m.n3
 l1 : m.v.n1 ≤ 100
 l2 : m.v.n2 ≤ 100
 l3 : m.n3 ≤ 100
theorem TrOwn.is {w : World} {base : Nat} {x : Tr} {m : TrM} (h : TrOwn w base x m) : TrIs w x m :=
 ⟨⟨h.path.rows, h.sects.rows, h.e1, h.e2, h.l1, h.l2, by rw [← h.e1]; exact h.path.cap.1, by rw [← h.e2]; exact h.sects.cap.1⟩, h.stops.rows, h.e3, h.l3, by rw [← h.e3]; exact h.stops.cap.1⟩
theorem TrOwn.below {w w' : World} {base : Nat} {x : Tr} {m : TrM} (h : TrOwn w base x m) (hb : Below w.heap.size w w') : TrOwn w' base x m := { h with path := h.path.below hb, sects := h.sects.below hb, stops := h.stops.below hb }
theorem TrOwn.mono {w : World} {base base' : Nat} {x : Tr} {m : TrM} (h : TrOwn w base x m) (hb : base' ≤ base) : TrOwn w base' x m := { h with path := h.path.mono hb, sects := h.sects.mono hb, stops := h.stops.mono hb }
theorem TrOwn.far {w w' : World} {base g : Nat} {x : Tr} {m : TrM} (h : TrOwn w base x m) (hlt : g < base) (hk : ∀ k, k ≠ g → w'.heap[k]? = w.heap[k]?) : TrOwn w' base x m := { h with path := h.path.far hlt hk, sects := h.sects.far hlt hk, stops := h.stops.far hlt hk }
theorem trC_set42 (x : Tr) (m : TrM) (A : Option Addr) (c : Nat) : (trC x m).setIfInBounds 42 (.slice A m.v.n1 c) = trC x { m with v := { m.v with A1 := A, c1 := c } } := rfl
theorem trC_set43 (x : Tr) (m : TrM) (A : Option Addr) (c : Nat) : (trC x m).setIfInBounds 43 (.slice A m.v.n2 c) = trC x { m with v := { m.v with A2 := A, c2 := c } } := rfl
theorem trC_set47 (x : Tr) (m : TrM) (A : Option Addr) (c : Nat) : (trC x m).setIfInBounds 47 (.slice A m.n3 c) = trC x { m with A3 := A, c3 := c } := rfl
theorem trC_get (x : Tr) (m : TrM) (i : Nat) (hi : i < 48) : i < (trC x m).size := hi
def trAt (m : TrM) (A1 : Option Addr) (c1 : Nat) (A2 : Option Addr) (c2 : Nat) (A3 : Option Addr) (c3 : Nat) : TrM := { m with v := ⟨A1, m.v.n1, c1, A2, m.v.n2, c2⟩, A3 := A3, c3 := c3 }
def RetCopied (x : Tr) (m : TrM) (w : World) (e : Ending) (w' : World) : Prop := (∃ A1 c1 A2 c2 A3 c3, e = .returned (.agg (trC x (trAt m A1 c1 A2 c2 A3 c3))) ∧ TrOwn w' w.heap.size x (trAt m A1 c1 A2 c2 A3 c3)) ∧ Below w.heap.size w w'
set_option maxRecDepth 8000 in
set_option maxHeartbeats 4000000 in
theorem copied_k (x : Tr) (m : TrM) (w : World) (hx : TrIs w x m) : Calls Tryz.prog 34 #[.agg (trC x m)] w (RetCopied x m w) := by
 have hO : Own w _ [_, _] := Own.start2 w 44 44 (trC x m) #[.int .i64 0, .int .i64 0, .int .i64 0, .int .i64 0, .int .i64 0, .int .i64 0, .int .i64 0, .int .i64 0, .int .i64 0, .int .i64 0, .int .i64 0, .int .i64 0, .int .i64 0, .int .u32 0, .int .u32 0, .int .u32 0, .int .u32 0, .int .i64 0, .int .u32 0, .int .u32 0, .int .u32 0, .int .u32 0, .int .u32 0, .int .u32 0, .bool false, .int .u32 0, .int .u32 0, .int .u32 0, .int .i64 0, .int .i64 0, .int .i64 0, .bool false, .int .i64 0, .bool false, .int .i64 0, .int .i64 0, .bool false, .int .i64 0, .int .i64 0, .bool false, .int .i64 0, .bool false, .slice none 0 0, .slice none 0 0, .int .i64 0, .int .i64 0, .bool false, .slice none 0 0]
 have hcx := hO.b0.cell
 have t42 := tr42 x m
 have t43 := tr43 x m
 have t47 := tr47 x m
 have hc1 := fun W (hW : Below w.heap.size w W) => clSt_k m.v.A1 m.v.n1 m.v.c1 x.ma.path W (hx.ma.path.below hW) hx.ma.e1 (by have := hx.ma.l1; omega)
 have hc2 := fun W (hW : Below w.heap.size w W) => clSc_k m.v.A2 m.v.n2 m.v.c2 x.ma.sects W (hx.ma.sects.below hW) hx.ma.e2 (by have := hx.ma.l2; omega)
 have hc3 := fun W (hW : Below w.heap.size w W) => clI_k m.A3 m.n3 m.c3 x.stops W (hx.stops.below hW) hx.e3 (by have := hx.l3; omega)
 go_enter Tryz.func34, Tryz.ntmps34
 go_wp2_with (first
  |(go_at_call 79; (with_reducible refine (hc1 _ hO.below).mono ?_); rintro e w1 ⟨A1, c1, rfl, ho1, hb1⟩; replace hO := hO.grow hb1)
  |((with_reducible refine own_cell0 42 (.slice A1 m.v.n1 c1) hO rfl 39 _ _ rfl rfl rfl (by kernel_rfl) ?_ rfl ?_); (· exact trC_get x m 42 (by decide)); intro wR hOR hszR hkR; replace hO := hOR; clear hOR; replace ho1 := ho1.far (by simp; omega) hkR; clear hkR hszR hcx; rw [trC_set42] at hO; have hlt1 := hO.b0.lt; have hlu1 := hO.b1.lt; have hcx := hO.b0.cell; have t43 := tr43 x { m with v := { m.v with A1 := A1, c1 := c1 } }; have t47 := tr47 x { m with v := { m.v with A1 := A1, c1 := c1 } })
  |(go_at_call 80; (with_reducible refine (hc2 _ hO.below).mono ?_); rintro e w2 ⟨A2, c2, rfl, ho2, hb2⟩; replace hO := hO.grow hb2; replace ho1 := ho1.below hb2)
  |((with_reducible refine own_cell0 43 (.slice A2 m.v.n2 c2) hO rfl 40 _ _ rfl rfl rfl (by kernel_rfl) ?_ rfl ?_); (· exact trC_get x _ 43 (by decide)); intro wR hOR hszR hkR; replace hO := hOR; clear hOR; replace ho1 := ho1.far (by simp; omega) hkR; replace ho2 := ho2.far hlt1 hkR; clear hkR hszR hcx; rw [trC_set43 x { m with v := { m.v with A1 := A1, c1 := c1 } }] at hO; have hlt2 := hO.b0.lt; have hlu2 := hO.b1.lt; have hcx := hO.b0.cell; have t47 := tr47 x { m with v := ⟨A1, m.v.n1, c1, A2, m.v.n2, c2⟩ })
  |(go_at_call 81; (with_reducible refine (hc3 _ hO.below).mono ?_); rintro e w3 ⟨A3, c3, rfl, ho3, hb3⟩; replace hO := hO.grow hb3; replace ho1 := ho1.below hb3; replace ho2 := ho2.below hb3)
  |((with_reducible refine own_cell0 47 (.slice A3 m.n3 c3) hO rfl 22 _ _ rfl rfl rfl (by kernel_rfl) ?_ rfl ?_); (· exact trC_get x _ 47 (by decide)); intro wR hOR hszR hkR; replace hO := hOR; clear hOR; replace ho1 := ho1.far (by simp; omega) hkR; replace ho2 := ho2.far hlt1 hkR; replace ho3 := ho3.far hlt2 hkR; clear hkR hszR hcx; rw [trC_set47 x { m with v := ⟨A1, m.v.n1, c1, A2, m.v.n2, c2⟩ }] at hO)
  |((with_reducible refine own_loadg0 hO ?_ _ rfl rfl _ Tryz.underlying44 rfl (trC_info x _) ?_); (· first | rfl | (simp [Region.wanted, yielded]; done)))
  |((with_reducible refine own_row1 (trC x (trAt m A1 c1 A2 c2 A3 c3)) hO rfl _ _ rfl rfl rfl (trC_info x _) rfl (trC_ones x _) ?_); intro wR hOR hszR hkR; replace hO := hOR; clear hOR; replace ho1 := ho1.far (by simp <;> omega) hkR; replace ho2 := ho2.far hlu1 hkR; replace ho3 := ho3.far hlu2 hkR)
  )
 exact bodyPost_ret (results_c Tryz.results34 _ _ _ _ _ rfl hO.b1 Tryz.underlying44 rfl (trC_info x _)) rfl ⟨⟨A1, c1, A2, c2, A3, c3, rfl, ho1.mono (by simp <;> omega), ho2.mono (Nat.le_of_lt hlt1), ho3.mono (Nat.le_of_lt hlt2), hx.ma.e1, hx.ma.e2, hx.e3, hx.ma.l1, hx.ma.l2, hx.l3⟩, hO.below⟩
open Go.RowKit
theorem Own.add {w W : World} {L : List Bk} (h : Own w W L) {g : Nat} {t : TypeId} {cs : Array Value} (hb : Blk W g t cs) (hg : w.heap.size ≤ g) (hn : ∀ x ∈ L, x.1 ≠ g) : Own w W (L ++ [(g, t, cs)]) := by
 refine ⟨h.below, fun x hx => ?_, ?_⟩
 ·
  rcases List.mem_append.1 hx with hx | hx
  ·
   exact h.blk x hx
  ·
   rw [List.mem_singleton] at hx
   subst hx
   exact ⟨hg, hb⟩
 ·
  rw [List.map_append, List.nodup_append]
  refine ⟨h.nodup, by simp, ?_⟩
  intro a ha b hb
  simp only [List.map_cons, List.map_nil, List.mem_singleton] at hb
  subst hb
  obtain ⟨x, hx, rfl⟩ := List.mem_map.1 ha
  exact hn x hx
theorem Own.turn {w W W' : World} {L : List Bk} {b : Nat} (h : Own w W L) (hb : w.heap.size ≤ b) (hn : ∀ x ∈ L, x.1 ≠ b) (hz : W.heap.size ≤ W'.heap.size) (hk : ∀ k, k < W.heap.size → k ≠ b → W'.heap[k]? = W.heap[k]?) (ho : W'.os = W.os ∧ W'.tape = W.tape ∧ W'.output = W.output) : Own w W' L :=
 h.grown (R := some b) ⟨ho.1, ho.2.1, ho.2.2, hz, fun k h1 h2 => hk k h1 (fun e => h2 (by rw [e]))⟩ (fun g hg => by
  simp only [Option.some.injEq] at hg
  subst hg
  exact ⟨hb, hn⟩)
section
variable {P : Program} {w W : World} {ops : Array Oper} {rest : List Oper} {o : Oper} {a : Act} {Q : Exit → Act → World → Prop} {L : List Bk} {b : Nat} {es : Array MapEntry} {cl : Nat} {t kt e : TypeId}
def putMap (W : World) (b : Nat) (o : Obj) : World := { W with heap := W.heap.setIfInBounds b o }
theorem run_insert_int (ht : P.underlying t = some (.map kt e)) (hkt : P.underlying kt = some (.int .i64)) (hb : W.heap[b]? = some (.map es cl)) (i : Int) (v : Value) (hf : Instr.findNow (.int .i64) (.int .i64 i) es.toList 0 = some none) : (Instr.mapUpdate t (.map (some b)) (.int .i64 i) v).run P W = .ok () (putMap W b (.map (es.push ⟨.int .i64 i, v, cl⟩) (cl + 1))) := by
 have hc := MapKept.run_checkKey (P := P) (w := W) hkt (k := .int .i64 i) (by trivial) false 9999
 simp [Instr.mapUpdate, run_underlying ht, MapKept.run_getObj_map hb, hc, Instr.findKey, run_underlying hkt, hf, MapKept.run_setObj_map _ hb, putMap]
theorem run_lookup_int (ht : P.underlying t = some (.map kt e)) (hkt : P.underlying kt = some (.int .i64)) (hb : W.heap[b]? = some (.map es cl)) (i : Int) (j : Nat) (v : Value) (hf : Instr.findNow (.int .i64) (.int .i64 i) es.toList 0 = some (some (j, v))) : (Instr.lookup t (.map (some b)) (.int .i64 i) true).run P W = .ok (.tuple #[v, .bool true]) W := by
 have hc := MapKept.run_checkKey (P := P) (w := W) hkt (k := .int .i64 i) (by trivial) es.isEmpty 9999
 simp [Instr.lookup, run_underlying ht, MapKept.run_getObj_map hb, hc, Instr.findKey, run_underlying hkt, hf]
theorem putMap_grown (W : World) (b : Nat) (o : Obj) : W.grownBy (putMap W b o) (some b) := by
 refine ⟨rfl, rfl, rfl, by simp [putMap], fun k _ hne => ?_⟩
 unfold putMap
 simp only
 exact Array.getElem?_setIfInBounds_ne (fun e => hne (by rw [e]))
theorem Own.mapped (h : Own w W L) (hb : W.heap[b]? = some (.map es cl)) (hg : w.heap.size ≤ b) (hn : ∀ x ∈ L, x.1 ≠ b) (o : Obj) : Own w (putMap W b o) L ∧ (putMap W b o).heap[b]? = some o := by
 refine ⟨h.turn hg hn (by simp [putMap]) (fun k _ hk => by simp [putMap, Array.getElem?_setIfInBounds_ne (fun e => hk e.symm)]) ⟨rfl, rfl, rfl⟩, ?_⟩
 have hlt : b < W.heap.size := by
  rcases Nat.lt_or_ge b W.heap.size with h | h
  ·
   exact h
  ·
   rw [Array.getElem?_eq_none h] at hb
   cases hb
 simp [putMap, hlt]
theorem wpList_makeMap_own (hO : Own w W L) (hgd : o.guard = none) (ho : o.op = .makeMap t none)
  (h : ∀ W' : World, Own w W' L → W'.heap[W.heap.size]? = some (.map #[] 0) → Below W.heap.size W W' → wpList P ops Q rest (a.put o.dst (.map (some W.heap.size))) W') : wpList P ops Q (o :: rest) a W := by
 refine wpList_plain hgd fun K hK => ?_
 have hb : Below W.heap.size W (W.alloc (.map #[] 0)) := (Below.refl _ _).alloc (Nat.le_refl _) _
 have := hK _ _ (h _ (hO.grow hb) (heap_alloc_new W _) hb)
 unfold Oper.wp execOp
 simp only [ho, Option.map_none, Sem.run_bind, run_makeMap, Result.andThen_ok]
 exact this
theorem wpList_insert_own (hO : Own w W L) (hM : W.heap[b]? = some (.map es cl)) (hg : w.heap.size ≤ b) (hn : ∀ x ∈ L, x.1 ≠ b) (hgd : o.guard = none) (m k y : Operand) (ho : o.op = .insert t m k y) (hm : a.eval m = .map (some b)) (i : Int) (hk : a.eval k = .int .i64 i) (v : Value) (hy : a.eval y = v)
  (ht : P.underlying t = some (.map kt e)) (hkt : P.underlying kt = some (.int .i64)) (hf : Instr.findNow (.int .i64) (.int .i64 i) es.toList 0 = some none)
  (h : ∀ W' : World, Own w W' L → W'.heap[b]? = some (.map (es.push ⟨.int .i64 i, v, cl⟩) (cl + 1)) → W.grownBy W' (some b) → wpList P ops Q rest (a.put o.dst undef) W') : wpList P ops Q (o :: rest) a W := by
 refine wpList_plain hgd fun K hK => ?_
 obtain ⟨h1, h2⟩ := hO.mapped hM hg hn (.map (es.push ⟨.int .i64 i, v, cl⟩) (cl + 1))
 have := hK _ _ (h _ h1 h2 (putMap_grown _ _ _))
 unfold Oper.wp execOp
 simp only [ho, hm, hk, hy, Sem.run_bind, run_insert_int ht hkt hM i v hf, Result.andThen_ok]
 exact this
theorem wpList_lookup_own (hM : W.heap[b]? = some (.map es cl)) (hgd : o.guard = none) (m k : Operand) (ho : o.op = .lookup t m k true) (hm : a.eval m = .map (some b)) (i : Int) (hk : a.eval k = .int .i64 i) (j : Nat) (v : Value)
  (ht : P.underlying t = some (.map kt e)) (hkt : P.underlying kt = some (.int .i64)) (hf : Instr.findNow (.int .i64) (.int .i64 i) es.toList 0 = some (some (j, v)))
  (h : wpList P ops Q rest (a.put o.dst (.tuple #[v, .bool true])) W) : wpList P ops Q (o :: rest) a W := by
 refine wpList_plain hgd fun K hK => ?_
 have := hK _ _ h
 unfold Oper.wp execOp
 simp only [ho, hm, hk, Sem.run_bind, run_lookup_int ht hkt hM i j v hf, Result.andThen_ok]
 exact this
end
end Go.Proofs.YtkaggddmhjifjaaGreatDoor
namespace Go.Proofs.YtkaggddmhjifjaaGreatDoor
open Go.RowKit Go.Shelf
def cabC (m : TpM) (x : Tr) (xm : TrM) (now : Int) : Array Value := m.cells ++ trC x xm ++ #[.int .i64 now, .slice none 0 0]
def zeroTr : Array Value := #[.int .i64 0, .int .i64 0, .int .i64 0, .int .i64 0, .int .i64 0, .int .i64 0, .int .i64 0, .int .i64 0, .int .i64 0, .int .i64 0, .int .i64 0, .int .i64 0, .int .i64 0, .int .u32 0, .int .u32 0, .int .u32 0, .int .u32 0, .int .i64 0, .int .u32 0, .int .u32 0, .int .u32 0, .int .u32 0, .int .u32 0, .int .u32 0, .bool false, .int .u32 0, .int .u32 0, .int .u32 0, .int .i64 0, .int .i64 0, .int .i64 0, .bool false, .int .i64 0, .bool false, .int .i64 0, .int .i64 0, .bool false, .int .i64 0, .int .i64 0, .bool false, .int .i64 0, .bool false, .slice none 0 0, .slice none 0 0, .int .i64 0, .int .i64 0, .bool false, .slice none 0 0]
theorem cabC_size (m : TpM) (x : Tr) (xm : TrM) (now : Int) : (cabC m x xm now).size = 54 := by simp [cabC, TpM.cells, trC_size]
theorem wp_build_is {o : Oper} {a : Act} {w : World} {K : Act → World → Prop} {Q : Exit → Act → World → Prop} (t : TypeId) (parts : Array (Nat × Operand)) (ho : o.op = .build t parts) (ps : List (Nat × Value)) (hps : (parts.map fun (i, x) => (i, a.eval x)).toList = ps) (cs : Array Value) (hc : Tryz.prog.built t ps = some cs) (h : K (a.put o.dst (.agg cs)) w) : o.wp Tryz.prog a w K Q := by
 subst hps
 exact wp_build t parts ho (by rw [hc]; rfl) (by rw [hc]; exact h)
theorem built_cab (m : TpM) (x : Tr) (xm : TrM) (now : Int) : Tryz.prog.built 101 [(0, .agg m.cells), (1, .agg (trC x xm)), (2, .int .i64 now)] = some (cabC m x xm now) := by kernel_rfl
theorem wp_store_c1 {P : Program} {o : Oper} {a : Act} {w : World} {K : Act → World → Prop} {Q : Exit → Act → World → Prop} (ty : TypeId) (x y : Operand) (ho : o.op = .store ty x y) (g i : Nat) (hx : a.eval x = .pointer (some ⟨g, i, none⟩)) (v : Value) (hy : a.eval y = v)
  (t : TypeId) (old : Array Value) (hg : Blk w g t old) (hil : i < old.size) (hi : (P.info? ty).map (·.size) = some 1) (h1 : v.oneCell' = true) (h : K (a.put o.dst undef) (w.setCell ⟨g, i, none⟩ v)) : o.wp P a w K Q := by
 have hrun := run_storeVar_cell (P := P) w g i t ty old v hg hil hi h1
 unfold Oper.wp execOp
 simp only [ho, hx, hy, Instr.storeAt, Instr.sureAddr, Sem.run_bind, Sem.run_pure, Result.andThen_ok, hrun]
 exact h
def NoRow (w : World) (g : Nat) : Prop := ∀ t cs, Blk w g t cs → t ≠ 95 ∧ t ≠ 122 ∧ t ≠ 3
theorem noRow_blk {w : World} {g : Nat} {t : TypeId} {cs : Array Value} (h : Blk w g t cs) (ht : t ≠ 95 ∧ t ≠ 122 ∧ t ≠ 3) : NoRow w g := fun t' cs' h' => by
 unfold Blk at h h'
 rw [h] at h'
 simp only [Option.some.injEq, Obj.cells.injEq] at h'
 rw [← h'.2.1]
 exact ht
theorem noRow_map {w : World} {g : Nat} {es : Array MapEntry} {cl : Nat} (h : w.heap[g]? = some (.map es cl)) : NoRow w g := fun t' cs' h' => by
 unfold Blk at h'
 rw [h] at h'
 simp at h'
theorem OwnRows.away {α : Type} {E : Laid α} {t : TypeId} {w w' : World} {base b c : Nat} {A : Option Addr} {xs : List α} (h : OwnRows E t w base A c xs) (hg : w.grownBy w' (some b)) (hne : ∀ cs, ¬ Blk w b t cs) : OwnRows E t w' base A c xs := h.off hg fun g hA e => by
 obtain ⟨g', cur, e1, _, hb, _⟩ := h.blk (by rintro rfl; cases hA)
 subst e1
 simp only [Option.map_some, Option.some.injEq] at hA e
 subst hA
 subst e
 exact hne cur hb
theorem TrOwn.away {w w' : World} {base b : Nat} {x : Tr} {m : TrM} (h : TrOwn w base x m) (hg : w.grownBy w' (some b)) (hn : NoRow w b) : TrOwn w' base x m := { h with path := h.path.away hg (fun cs hb => (hn _ _ hb).1 rfl), sects := h.sects.away hg (fun cs hb => (hn _ _ hb).2.1 rfl), stops := h.stops.away hg (fun cs hb => (hn _ _ hb).2.2 rfl) }
def CopW (B : Nat) (x : Tr) (xm : TrM) : Value → World → Prop := fun v w => ∃ A1 c1 A2 c2 A3 c3, v = .agg (trC x (trAt xm A1 c1 A2 c2 A3 c3)) ∧ TrOwn w B x (trAt xm A1 c1 A2 c2 A3 c3)
def BldW (B : Nat) (m : TpM) (x : Tr) (xm : TrM) (now : Int) : Value → World → Prop := fun v w => ∃ A1 c1 A2 c2 A3 c3, v = .agg (cabC m x (trAt xm A1 c1 A2 c2 A3 c3) now) ∧ TrOwn w B x (trAt xm A1 c1 A2 c2 A3 c3)
def BoxW (B : Nat) (m : TpM) (x : Tr) (xm : TrM) (now : Int) : Value → World → Prop := fun v w => ∃ g A1 c1 A2 c2 A3 c3, v = .pointer (some ⟨g, 0, none⟩) ∧ B ≤ g ∧ Blk w g 101 (cabC m x (trAt xm A1 c1 A2 c2 A3 c3) now) ∧ TrOwn w B x (trAt xm A1 c1 A2 c2 A3 c3)
def AlcW (B : Nat) : Value → World → Prop := fun v w => ∃ g y, v = .pointer (some ⟨g, 0, none⟩) ∧ B ≤ g ∧ Blk w g 98 #[y]
theorem grows_cop (B : Nat) (x : Tr) (xm : TrM) : Grows (CopW B x xm) := fun v w w' ⟨A1, c1, A2, c2, A3, c3, h1, h2⟩ hb => ⟨A1, c1, A2, c2, A3, c3, h1, h2.below hb⟩
theorem grows_bld (B : Nat) (m : TpM) (x : Tr) (xm : TrM) (now : Int) : Grows (BldW B m x xm now) := fun v w w' ⟨A1, c1, A2, c2, A3, c3, h1, h2⟩ hb => ⟨A1, c1, A2, c2, A3, c3, h1, h2.below hb⟩
theorem grows_box (B : Nat) (m : TpM) (x : Tr) (xm : TrM) (now : Int) : Grows (BoxW B m x xm now) := fun v w w' ⟨g, A1, c1, A2, c2, A3, c3, h0, h1, h3, h2⟩ hb => ⟨g, A1, c1, A2, c2, A3, c3, h0, h1, h3.below hb h3.lt, h2.below hb⟩
theorem grows_alc (B : Nat) : Grows (AlcW B) := fun v w w' ⟨g, y, h0, h1, h3⟩ hb => ⟨g, y, h0, h1, h3.below hb h3.lt⟩
theorem results_ctt {P : Program} {fn : Func} {a c d : Tmp} {t1 : TypeId} (h : fn.results = #[.cell a t1, .tmp c, .tmp d]) (tmps : Array Value) (w : World) (g1 : Nat) (c1 : Array Value) (v v2 : Value) (d1 : TypeDesc)
  (ha : tmps.getD a undef = .pointer (some ⟨g1, 0, none⟩)) (hc : tmps.getD c undef = v) (hd : tmps.getD d undef = v2) (h1 : Blk w g1 t1 c1)
  (u1 : P.underlying t1 = some d1) (k1 : (match d1 with | .struct _ | .array _ _ => true | _ => false) = true) (i1 : (P.info? t1).map (·.size) = some c1.size) :
  (results fn tmps).run P w = .ok (.tuple #[.agg c1, v, v2]) w := by
 have ha' : tmps[a]?.getD undef = .pointer (some ⟨g1, 0, none⟩) := by simpa using ha
 have hc' : tmps[c]?.getD undef = v := by simpa using hc
 have hd' : tmps[d]?.getD undef = v2 := by simpa using hd
 simp [results, h, ha', hc', hd', asAddr, run_loadVar_row w g1 t1 t1 c1 (0, 0) d1 h1 u1 k1 i1]
theorem Own.change {w W W' : World} {L1 L2 : List Bk} {g : Nat} {t : TypeId} {old new : Array Value} (h : Own w W (L1 ++ (g, t, old) :: L2)) (hg : W.grownBy W' (some g)) (hb : Blk W' g t new) : Own w W' (L1 ++ (g, t, new) :: L2) := by
 have hgo := h.blk (g, t, old) (by simp)
 have hnd := h.nodup
 rw [List.map_append, List.map_cons, List.nodup_append] at hnd
 obtain ⟨n1, n2, n3⟩ := hnd
 rw [List.nodup_cons] at n2
 refine ⟨h.below.trans ⟨hg.os, hg.tape, hg.output, hg.size, fun k hk => hg.block k (Nat.lt_of_lt_of_le hk h.below.size) (fun e => by simp only [Option.some.injEq] at e; have := hgo.1; simp only at this; omega)⟩, fun x hx => ?_, ?_⟩
 ·
  have keep : ∀ x ∈ L1 ++ (g, t, old) :: L2, x.1 ≠ g → w.heap.size ≤ x.1 ∧ Blk W' x.1 x.2.1 x.2.2 := fun x hx hne => by
   obtain ⟨h1, h2⟩ := h.blk x hx
   exact ⟨h1, (hg.block x.1 h2.lt (fun e => hne (by simpa using e))).trans h2⟩
  rcases List.mem_append.1 hx with hx | hx
  ·
   refine keep x (by simp [hx]) (fun e => ?_)
   exact n3 x.1 (List.mem_map_of_mem hx) g (by simp) e
  ·
   rcases List.mem_cons.1 hx with rfl | hx
   ·
    exact ⟨hgo.1, hb⟩
   ·
    refine keep x (by simp [hx]) (fun e => ?_)
    exact n2.1 (List.mem_map.2 ⟨x, hx, e⟩)
 ·
  have := h.nodup
  simp only [List.map_append, List.map_cons] at this ⊢
  exact this
theorem movedR_same (t : Tp) (x : Tr) (n now : Int) : (movedR t x n now).ma = x.ma ∧ (movedR t x n now).stops = x.stops := by
 unfold movedR
 split
 ·
  unfold movedX
  split <;> exact ⟨rfl, rfl⟩
 ·
  exact ⟨rfl, rfl⟩
theorem TrOwn.moved {w : World} {base : Nat} {x y : Tr} {m : TrM} (h : TrOwn w base x m) (hm : y.ma = x.ma ∧ y.stops = x.stops) : TrOwn w base y m := by
 obtain ⟨h1, h2⟩ := hm
 exact ⟨by rw [h1]; exact h.path, by rw [h1]; exact h.sects, by rw [h2]; exact h.stops, by rw [h1]; exact h.e1, by rw [h1]; exact h.e2, by rw [h2]; exact h.e3, h.l1, h.l2, h.l3⟩
theorem blk_ne {w : World} {g1 g2 : Nat} {t1 t2 : TypeId} {c1 c2 : Array Value} (h1 : Blk w g1 t1 c1) (h2 : Blk w g2 t2 c2) (ht : t1 ≠ t2) : g1 ≠ g2 := by
 rintro rfl
 unfold Blk at h1 h2
 rw [h1] at h2
 simp only [Option.some.injEq, Obj.cells.injEq] at h2
 exact ht h2.2.1
theorem cabC_out (m : TpM) (x : Tr) (xm : TrM) (now : Int) : (cabC m x xm now)[53]? = some (.slice none 0 0) := by
 have h4 : m.cells.size = 4 := rfl
 unfold cabC
 rw [Array.getElem?_append_right (by simp [h4, trC_size])]
 simp [h4, trC_size]
open Go.RowKit Go.Shelf
theorem cab_tr {W : World} {g : Nat} {t : TypeId} {m : TpM} {x : Tr} {xm : TrM} {now : Int} (hB : Blk W g t (cabC m x xm now)) : W.rangeAt g 4 (trC x xm).toList := by
 intro j v hv
 rw [hB.cell]
 unfold cabC
 have hj : j < 48 := by
  have := (List.getElem?_eq_some_iff.1 hv).1
  simpa [trC_size] using this
 have h4 : m.cells.size = 4 := rfl
 rw [Array.getElem?_append_left (by simp [h4, trC_size]; omega), Array.getElem?_append_right (by rw [h4]; omega), h4, Nat.add_sub_cancel_left]
 simpa using hv
theorem putAt_get : ∀ (vs : List Value) (o : Nat) (a : Array Value) (i : Nat), o + vs.length ≤ a.size → (putAt a o vs)[i]? = if o ≤ i ∧ i < o + vs.length then vs[i - o]? else a[i]?
 | [], o, a, i, h => by simp [putAt]; omega
 | v :: vs, o, a, i, h => by
  rw [putAt, putAt_get vs (o + 1) _ i (by simp at h ⊢; omega)]
  simp only [List.length_cons] at h ⊢
  by_cases h1 : o + 1 ≤ i ∧ i < o + 1 + vs.length
  ·
   rw [if_pos h1, if_pos (by omega), show i - o = (i - (o + 1)) + 1 by omega, List.getElem?_cons_succ]
  ·
   rw [if_neg h1]
   by_cases h2 : i = o
   ·
    subst h2
    rw [if_pos (by omega), Array.getElem?_setIfInBounds_self_of_lt (by omega)]
    simp
   ·
    rw [if_neg (by omega), Array.getElem?_setIfInBounds_ne (by omega)]
theorem putAt_cab (m : TpM) (x y : Tr) (xm : TrM) (now : Int) : putAt (cabC m x xm now) 4 (trC y xm).toList = cabC m y xm now := by
 have h4 : m.cells.size = 4 := rfl
 apply Array.ext_getElem?
 intro i
 rw [putAt_get _ _ _ _ (by rw [cabC_size]; simp [trC_size])]
 have hl : (trC y xm).toList.length = 48 := by simp [trC_size]
 unfold cabC
 by_cases h : 4 ≤ i ∧ i < 4 + (trC y xm).toList.length
 ·
  rw [if_pos h]
  rw [hl] at h
  rw [Array.getElem?_append_left (by simp [h4, trC_size]; omega), Array.getElem?_append_right (by rw [h4]; omega), h4]
  simp
 ·
  rw [if_neg h]
  rw [hl] at h
  by_cases hi : i < 4
  ·
   rw [Array.getElem?_append_left (by simp [h4, trC_size]; omega), Array.getElem?_append_left (by rw [h4]; omega), Array.getElem?_append_left (by simp [h4, trC_size]; omega), Array.getElem?_append_left (by rw [h4]; omega)]
  ·
   rw [Array.getElem?_append_right (by simp [h4, trC_size]; omega), Array.getElem?_append_right (by simp [h4, trC_size]; omega)]
   simp [h4, trC_size]
def TW (g s i : Nat) (W W' : World) : Prop := W.grownBy W' (some g) ∧ (i ≠ s → Below W.heap.size W W')
theorem below_grownBy {W W' : World} (h : Below W.heap.size W W') (r : Option Nat) : W.grownBy W' r := ⟨h.os, h.tape, h.output, h.size, fun k hk _ => h.block k hk⟩
theorem tw_same (g s i : Nat) (W : World) : TW g s i W W := ⟨below_grownBy (Below.refl _ _) _, fun _ => Below.refl _ _⟩
theorem tw_below {g s i : Nat} {W W' : World} (h : Below W.heap.size W W') : TW g s i W W' := ⟨below_grownBy h _, fun _ => h⟩
theorem grownBy_trans {W W1 W2 : World} {g : Nat} (h : W.grownBy W1 (some g)) (k : W1.grownBy W2 (some g)) : W.grownBy W2 (some g) :=
 ⟨k.os.trans h.os, k.tape.trans h.tape, k.output.trans h.output, Nat.le_trans h.size k.size, fun i hi hne => (k.block i (Nat.lt_of_lt_of_le hi h.size) hne).trans (h.block i hi hne)⟩
def StableW (ops : Array Oper) (T : Nat → World → World → Prop) (j : Nat) (Φ : (Nat → Value) → World → Prop) : Prop := ∀ i, i ≠ j → FreeOf ops i j → ∀ u v w w', Φ u w → T i w w' → Φ (upd u i v) w'
def StW (ops : Array Oper) (T : Nat → World → World → Prop) : Nat → List ((Nat → Value) → World → Prop) → Prop
 | _, [] => True
 | j, Φ :: l => StableW ops T j Φ ∧ StW ops T (j + 1) l
theorem stW_at {ops : Array Oper} {T : Nat → World → World → Prop} : ∀ (l : List ((Nat → Value) → World → Prop)) (k : Nat), StW ops T k l → ∀ j Φ, l[j]? = some Φ → StableW ops T (k + j) Φ
 | [], _, _, j, Φ, h => by simp at h
 | Ψ :: l, k, h, 0, Φ, hj => by
  simp at hj
  subst hj
  exact h.1
 | Ψ :: l, k, h, j + 1, Φ, hj => by
  have := stW_at l (k + 1) h.2 j Φ (by simpa using hj)
  rwa [show k + 1 + j = k + (j + 1) by omega] at this
theorem stW_last {ops : Array Oper} {T : Nat → World → World → Prop} {Φs : List ((Nat → Value) → World → Prop)} (h : StW ops T 0 Φs) : ∀ i j (Φ : (Nat → Value) → World → Prop), i ≠ j → i < Φs.length → FreeOf ops i j → Φs[j]? = some Φ → ∀ u v w w', Φ u w → T i w w' → Φ (upd u i v) w' := by
 intro i j Φ hij _ hfr hj u v W W' hΦ ht
 have := stW_at _ 0 h j Φ hj
 rw [Nat.zero_add] at this
 exact this i hij hfr u v W W' hΦ ht
theorem stableW_is {ops : Array Oper} {T : Nat → World → World → Prop} {j : Nat} (c : Value) : StableW ops T j (Own1 j (Is c)) := fun _ hij _ _ _ _ _ h _ => own1_keep hij h fun _ h => h
theorem stableW_blk {ops : Array Oper} {g s : Nat} {t : TypeId} {cs : Array Value} : StableW ops (TW g s) s (Own1 s (fun _ w => Blk w g t cs)) := fun _ hij _ _ _ _ _ h ht => h.below (ht.2 hij) h.lt
structure Cab4 (base : Nat) (t : Tp) (m : TpM) (x : Tr) (xn : TrM) (now n : Int) (gt gc gp gn ga : Nat) (W : World) : Prop where
 tp : TpIs W t m
 tr : TrOwn W base x xn
 b0 : Blk W gt 27 m.cells
 b1 : Blk W gc 101 (cabC m x xn now)
 b2 : Blk W gp 98 #[.pointer (some ⟨gc, 0, none⟩)]
 b3 : Blk W gn 3 #[.int .i64 now]
 b4 : Blk W ga 49 #[.int .i64 4, .int .i64 n, .slice none 0 0]
theorem Cab4.below {base : Nat} {t : Tp} {m : TpM} {x : Tr} {xn : TrM} {now n : Int} {gt gc gp gn ga : Nat} {W W' : World} (h : Cab4 base t m x xn now n gt gc gp gn ga W) (hb : Below W.heap.size W W') : Cab4 base t m x xn now n gt gc gp gn ga W' :=
 ⟨h.tp.below hb, h.tr.below hb, h.b0.below hb h.b0.lt, h.b1.below hb h.b1.lt, h.b2.below hb h.b2.lt, h.b3.below hb h.b3.lt, h.b4.below hb h.b4.lt⟩
set_option maxRecDepth 8000 in
set_option maxHeartbeats 8000000 in
theorem step4_k {w : World} {base : Nat} {t : Tp} {m : TpM} {x : Tr} {xn : TrM} {gt gc gp gn : Nat} {n now : Int} (hT : TpIs w t m) (hX : TrOwn w base x xn) (b0 : Blk w gt 27 m.cells) (b1 : Blk w gc 101 (cabC m x xn now)) (b2 : Blk w gp 98 #[.pointer (some ⟨gc, 0, none⟩)]) (b3 : Blk w gn 3 #[.int .i64 now]) (hnow : clockP now = true) :
  Calls Tryz.prog 41 #[.agg #[.int .i64 4, .int .i64 n, .slice none 0 0], .pointer (some ⟨gt, 0, none⟩), .pointer (some ⟨gp, 0, none⟩), .pointer (some ⟨gn, 0, none⟩)] w fun e w' => e = .returned (.int .i64 (movedE t x n now)) ∧ Blk w' gc 101 (cabC m (movedR t x n now) xn now) ∧ w.grownBy w' (some gc) := by
 have hb0 : Below w.heap.size w (w.alloc (.cells #[.int .i64 4, .int .i64 n, .slice none 0 0] 49)) := (Below.refl _ _).alloc (Nat.le_refl _) _
 have hC : Cab4 base t m x xn now n gt gc gp gn w.heap.size (w.alloc (.cells #[.int .i64 4, .int .i64 n, .slice none 0 0] 49)) := ⟨hT.below hb0, hX.below hb0, b0.below hb0 b0.lt, b1.below hb0 b1.lt, b2.below hb0 b2.lt, b3.below hb0 b3.lt, Blk.new _ _ _⟩
 have hmv := fun W (hC : Cab4 base t m x xn now n gt gc gp gn w.heap.size W) => moved_m hC.tp x xn hC.tr.is n now hnow
 generalize movedE t x n now = me at *
 generalize movedR t x n now = mr at *
 clear hT hX b0 b1 b2 b3 hnow
 go_enter Tryz.func41, Tryz.ntmps41
 go_wp2_with fail
 generalize hge : (w.alloc (.cells #[.int .i64 4, .int .i64 n, .slice none 0 0] 49)) = W0 at *
 clear hge
 apply wp_region_lextv (fun W W' => W.grownBy W' (some gc)) (fun W => below_grownBy (below_drewN (Below.refl _ _) 1) _) (fun _ _ _ h1 h2 => grownBy_trans h1 h2) (TW gc 15) (fun _ _ _ h => h.1) (fun _ _ => tw_same _ _ _ _) (fun i W => i ≤ 11 ∨ i = 15 → Cab4 base t m x xn now n gt gc gp gn w.heap.size W) (fun i _ => hC.below (below_drewN (Below.refl _ _) 1))
 case hFl =>
  intro u
  simp only [List.map, fill, Act.put, List.setIfInBounds_toArray, List.set_cons_zero, List.set_cons_succ, Nat.reduceAdd, Nat.zero_add]
  with_reducible rfl
 case hm => kernel_rfl
 case hB => kernel_rfl
 case hA => kernel_rfl
 case hap => kernel_rfl
 case hPst =>
  intro i j W W' hij hf hP hT hi
  by_cases hj : j = 15
  ·
   subst hj
   rcases hi with hi | rfl
   ·
    exact absurd hf (waitsB_spec (List.all_eq_true.1 (show (List.range 12).all (fun i => waitsB _ i 15) = true by kernel_rfl) i (by simp; omega)))
   ·
    exact absurd rfl hij
  ·
   exact (hP hi).below (hT.2 hj)
 apply LexTU.is
 ·
  (
   intro u w' hk hpre hd
   simp [WaitedU, Region.binds, Own1, Is] at hd
   refine lookedT_want ?_ ?_
   ·
    first
    | rfl
    |(simp [Region.wanted, yielded, hd]; done)
   intro K hK
   have p := hpre (.inl (by decide)); have hc2 := p.b2.cell
   go_wp2_with (fail)
   try simp only [hd] at hK
   refine hK _ _ ?_ rfl
   first | exact tw_same _ _ _ _ | exact tw_below hb3)
 refine LexTU.is (c := .agg m.cells) ?_ ?_
 ·
  intro u w' hk hpre hd
  have p := hpre (.inl (by decide))
  refine lookedT_want (by first | rfl | simp [Region.wanted, yielded]) ?_
  intro K hK
  exact wp_load_row 27 _ rfl gt rfl 27 _ (0, 0) _ p.b0 Tryz.underlying27 rfl (by kernel_rfl) (hK _ _ (tw_same _ _ _ _) rfl)
 apply LexTU.is
 ·
  (
   intro u w' hk hpre hd
   simp [WaitedU, Region.binds, Own1, Is] at hd
   refine lookedT_want ?_ ?_
   ·
    first
    | rfl
    |(simp [Region.wanted, yielded, hd]; done)
   intro K hK
   have p := hpre (.inl (by decide)); have hc2 := p.b2.cell
   go_wp2_with (fail)
   try simp only [hd] at hK
   refine hK _ _ ?_ rfl
   first | exact tw_same _ _ _ _ | exact tw_below hb3)
 apply LexTU.is
 ·
  (
   intro u w' hk hpre hd
   simp [WaitedU, Region.binds, Own1, Is] at hd
   refine lookedT_want ?_ ?_
   ·
    first
    | rfl
    |(simp [Region.wanted, yielded, hd]; done)
   intro K hK
   clear hpre
   go_wp2_with (fail)
   try simp only [hd] at hK
   refine hK _ _ ?_ rfl
   first | exact tw_same _ _ _ _ | exact tw_below hb3)
 apply LexTU.is
 ·
  (
   intro u w' hk hpre hd
   simp [WaitedU, Region.binds, Own1, Is] at hd
   refine lookedT_want ?_ ?_
   ·
    first
    | rfl
    |(simp [Region.wanted, yielded, hd]; done)
   intro K hK
   clear hpre
   go_wp2_with (fail)
   try simp only [hd] at hK
   refine hK _ _ ?_ rfl
   first | exact tw_same _ _ _ _ | exact tw_below hb3)
 refine LexTU.is (c := .agg (trC x xn)) ?_ ?_
 ·
  intro u w' hk hpre hd
  simp [WaitedU, Region.binds, Own1, Is] at hd
  have p := hpre (.inl (by decide))
  refine lookedT_want (by first | rfl | simp [Region.wanted, yielded]) ?_
  intro K hK
  exact wp_load_mid 44 _ rfl gc 4 (by rw [← hd]; rfl) (trC x xn).toList _ (cab_tr p.b1) Tryz.underlying44 rfl (trC_info x xn) (hK _ _ (tw_same _ _ _ _) rfl)
 apply LexTU.is
 ·
  (
   intro u w' hk hpre hd
   simp [WaitedU, Region.binds, Own1, Is] at hd
   refine lookedT_want ?_ ?_
   ·
    first
    | rfl
    |(simp [Region.wanted, yielded, hd]; done)
   intro K hK
   clear hpre
   go_wp2_with (fail)
   try simp only [hd] at hK
   refine hK _ _ ?_ rfl
   first | exact tw_same _ _ _ _ | exact tw_below hb3)
 apply LexTU.is
 ·
  (
   intro u w' hk hpre hd
   simp [WaitedU, Region.binds, Own1, Is] at hd
   refine lookedT_want ?_ ?_
   ·
    first
    | rfl
    |(simp [Region.wanted, yielded, hd]; done)
   intro K hK
   have p := hpre (.inl (by decide)); have hc4 := p.b4.cell
   go_wp2_with (fail)
   try simp only [hd] at hK
   refine hK _ _ ?_ rfl
   first | exact tw_same _ _ _ _ | exact tw_below hb3)
 apply LexTU.is
 ·
  (
   intro u w' hk hpre hd
   simp [WaitedU, Region.binds, Own1, Is] at hd
   refine lookedT_want ?_ ?_
   ·
    first
    | rfl
    |(simp [Region.wanted, yielded, hd]; done)
   intro K hK
   have p := hpre (.inl (by decide)); have hc3 := p.b3.cell
   go_wp2_with (fail)
   try simp only [hd] at hK
   refine hK _ _ ?_ rfl
   first | exact tw_same _ _ _ _ | exact tw_below hb3)
 apply LexTU.is
 ·
  (
   intro u w' hk hpre hd
   simp [WaitedU, Region.binds, Own1, Is] at hd
   refine lookedT_want ?_ ?_
   ·
    first
    | rfl
    |(simp [Region.wanted, yielded, hd]; done)
   intro K hK
   have p := hpre (.inl (by decide))
   go_wp2_with ((first | (go_at_call 42; (with_reducible refine (hmv _ p).mono ?_); rintro e w3 ⟨rfl, hb3⟩)))
   try simp only [hd] at hK
   refine hK _ _ ?_ rfl
   first | exact tw_same _ _ _ _ | exact tw_below hb3)
 apply LexTU.is
 ·
  (
   intro u w' hk hpre hd
   simp [WaitedU, Region.binds, Own1, Is] at hd
   refine lookedT_want ?_ ?_
   ·
    first
    | rfl
    |(simp [Region.wanted, yielded, hd]; done)
   intro K hK
   clear hpre
   go_wp2_with (fail)
   try simp only [hd] at hK
   refine hK _ _ ?_ rfl
   first | exact tw_same _ _ _ _ | exact tw_below hb3)
 apply LexTU.is
 ·
  (
   intro u w' hk hpre hd
   simp [WaitedU, Region.binds, Own1, Is] at hd
   refine lookedT_want ?_ ?_
   ·
    first
    | rfl
    |(simp [Region.wanted, yielded, hd]; done)
   intro K hK
   clear hpre
   go_wp2_with (fail)
   try simp only [hd] at hK
   refine hK _ _ ?_ rfl
   first | exact tw_same _ _ _ _ | exact tw_below hb3)
 apply LexTU.is
 ·
  (
   intro u w' hk hpre hd
   simp [WaitedU, Region.binds, Own1, Is] at hd
   refine lookedT_want ?_ ?_
   ·
    first
    | rfl
    |(simp [Region.wanted, yielded, hd]; done)
   intro K hK
   clear hpre
   go_wp2_with (fail)
   try simp only [hd] at hK
   refine hK _ _ ?_ rfl
   first | exact tw_same _ _ _ _ | exact tw_below hb3)
 apply LexTU.is
 ·
  (
   intro u w' hk hpre hd
   simp [WaitedU, Region.binds, Own1, Is] at hd
   refine lookedT_want ?_ ?_
   ·
    first
    | rfl
    |(simp [Region.wanted, yielded, hd]; done)
   intro K hK
   clear hpre
   go_wp2_with (fail)
   try simp only [hd] at hK
   refine hK _ _ ?_ rfl
   first | exact tw_same _ _ _ _ | exact tw_below hb3)
 apply LexTU.is
 ·
  (
   intro u w' hk hpre hd
   simp [WaitedU, Region.binds, Own1, Is] at hd
   refine lookedT_want ?_ ?_
   ·
    first
    | rfl
    |(simp [Region.wanted, yielded, hd]; done)
   intro K hK
   clear hpre
   go_wp2_with (fail)
   try simp only [hd] at hK
   refine hK _ _ ?_ rfl
   first | exact tw_same _ _ _ _ | exact tw_below hb3)
 refine LexTU.one (fun _ w => Blk w gc 101 (cabC m mr xn now)) ?_ ?_
 ·
  intro u w' hk hpre hd
  simp [WaitedU, Region.binds, Own1, Is] at hd
  have p := hpre (.inr rfl)
  refine lookedT_want (by first | rfl | simp [Region.wanted, yielded]) ?_
  intro K hK
  obtain ⟨h14, h11, _⟩ := hd
  obtain ⟨s1, s2, s3, s4, s5⟩ := setCells_heap gc (trC mr xn).toList 4 w'
  refine wp_store_mid 44 _ _ rfl gc 4 (trC mr xn) (by rw [← h14]; rfl) (by rw [← h11]; rfl) ?_ (trC_info mr xn) (trC_ones mr xn) (hK _ _ ⟨⟨s3, s4, s5, Nat.le_of_eq s1.symm, fun k _ hne => s2 k (fun e => hne (by rw [e]))⟩, fun h => absurd rfl h⟩ ?_)
  ·
   intro j hj
   rw [trC_size] at hj
   rw [p.b1.cell, p.b1.frozen]
   exact ⟨by rw [Array.getElem?_eq_getElem (by rw [cabC_size]; omega)]; rfl, rfl⟩
  ·
   have := Blk.cells_ (trC mr xn).toList 4 _ w' p.b1
   rwa [putAt_cab] at this
 refine LexTU.last (stW_last ?_) ?_
 ·
  simp only [List.nil_append, List.cons_append]
  repeat (refine ⟨?_, ?_⟩; · first | exact stableW_is _ | exact stableW_blk)
  exact trivial
 intro u w1 hk hpre hd
 simp only [List.nil_append, List.cons_append] at hd
 refine ⟨by first | rfl | simp [Region.wanted, yielded], ?_⟩
 intro K hK
 have h12 := hd 12 _ rfl
 have h15 := hd 15 _ rfl
 simp only [Own1, Is] at h12 h15
 clear hd
 simp only [h12]
 clear h12
 go_wp2_with fail
 go_ret
 exact ⟨rfl, h15, grownBy_trans (below_grownBy hb0 _) hk⟩
end Go.Proofs.YtkaggddmhjifjaaGreatDoor
