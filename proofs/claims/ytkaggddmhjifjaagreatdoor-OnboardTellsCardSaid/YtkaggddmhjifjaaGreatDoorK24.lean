/- Texts in one: Send Start ChainB. -/
import Derived.Test.YtkaggddmhjifjaaGreatDoorK20
import Derived.Test.YtkaggddmhjifjaaGreatDoorK23
set_option linter.unusedSimpArgs false
set_option linter.unusedVariables false
namespace Go.Proofs.YtkaggddmhjifjaaGreatDoor
open Go.RowKit Go.Shelf
def encV : Laid (Option Addr × Nat × Nat) := ⟨1, fun p => [.slice p.1 p.2.1 p.2.2], fun _ => rfl, fun _ u hu => by simp at hu; subst hu; rfl, by decide⟩
theorem rowV : RowType Tryz.prog encV 67 47 24 := row_of (.slice none 0 0) Tryz.underlying67 (by kernel_rfl) rfl
theorem enc1_c (w : World) : Calls Tryz.prog 139 #[.agg pdu1] w fun e w' => ∃ A n c, e = .returned (.tuple #[.slice A n c, .int .i64 0]) ∧ Below w.heap.size w w' := by
 have h := penc_k ⟨1, 0, 5, 1, 0, [], 0⟩ none 0 0 w rfl (Bytes.nil _) (by decide)
 rw [show (if may ⟨1, 0, 5, 1, 0, [], 0⟩ then (0 : Int) else 1) = 0 by decide +kernel] at h
 refine h.mono ?_
 rintro e w' ⟨v, rfl, ⟨A, c, rfl, _⟩, hb⟩
 exact ⟨A, _, c, rfl, hb⟩
set_option maxRecDepth 8000 in
set_option maxHeartbeats 4000000 in
theorem send_c {w : World} {gc : Nat} {cs : Array Value} (hgc : Blk w gc 101 cs) (h53 : cs[53]? = some (.slice none 0 0)) : Calls Tryz.prog 83 #[.pointer (some ⟨gc, 0, none⟩), .agg pdu1] w fun e w' => e = .returned (.tuple #[]) ∧ ∃ A c, Blk w' gc 101 (cs.setIfInBounds 53 (.slice A 1 c)) ∧ w.grownBy w' (some gc) := by
 have hO : Own w _ [_] := (Own.nil w).alloc 145 pdu1 _ rfl
 have hgc0 := hgc.below hO.below hgc.lt
 have hlt := hgc.lt
 clear hgc
 go_enter Tryz.func83, Tryz.ntmps83
 go_wp2_with (first
  |((with_reducible refine own_loadg0 hO ?_ _ rfl rfl _ Tryz.underlying145 rfl (by kernel_rfl) ?_); (· first | rfl | (simp [Region.wanted, yielded]; done)))
  |(go_at_call 139; (with_reducible refine (enc1_c _).mono ?_); rintro e w1 ⟨A, n, c, rfl, hb1⟩; replace hO := hO.grow hb1; replace hgc0 := hgc0.below hb1 hgc0.lt; have hc53 := (hgc0.cell 53).trans h53)
  |(at_builtin; refine wpList_app_rows rowV rfl _ _ rfl w.heap.size none 0 [] 0 rfl rfl (OwnRows.nil _ _) _ 1 [(A, n, c)] 1 rfl rfl (rows_blk (Blk.new w1 47 #[.slice A n c]) rfl) (by omega) (by decide) (Nat.le_trans hO.below.size (by simp)) ?_; intro A2 c2 w5 ho5 hg5 _; have hb5 := below_then ((Below.refl _ _).alloc (Nat.le_refl _) (.cells #[.slice A n c] 47)) (below_none hg5); have hgc5 := hgc0.below hb5 hgc0.lt; have hc5 := hgc5.cell 53; rw [h53] at hc5; have hf5 := hgc5.frozen 53; have hb05 := hO.below.trans (hb5.mono hO.below.size)))
 refine bodyPost_end (results_none rfl _ _ _) rfl ⟨rfl, ⟨A2, c2, hgc5.set_ 53 _⟩, grownBy_trans (below_grownBy hb05 _) (grown1 w5 gc 53 _)⟩
def cabX (m : TpM) (v : MaM) (A3 : Option Addr) (n3 c3 : Nat) (now st a nx : Int) (out : Value) : Array Value := #[.slice m.A1 m.n1 m.c1, .slice m.A2 m.n2 m.c2, .slice m.A3 m.n3 m.c3, .slice m.A4 m.n4 m.c4, .int .i64 5, .int .i64 400, .int .i64 100, .int .i64 100, .int .i64 10, .int .i64 2, .int .i64 50, .int .i64 70, .int .i64 20, .int .i64 0, .int .i64 0, .int .i64 0, .int .i64 5, .int .u32 1, .int .u32 2, .int .u32 3, .int .u32 4, .int .i64 st, .int .u32 a, .int .u32 0, .int .u32 0, .int .u32 0, .int .u32 0, .int .u32 0, .bool false, .int .u32 0, .int .u32 0, .int .u32 nx, .int .i64 (-1), .int .i64 100, .int .i64 100, .bool false, .int .i64 (-1), .bool false, .int .i64 0, .int .i64 50, .bool false, .int .i64 7, .int .i64 40, .bool false, .int .i64 7, .bool false, .slice v.A1 v.n1 v.c1, .slice v.A2 v.n2 v.c2, .int .i64 0, .int .i64 3, .bool true, .slice A3 n3 c3, .int .i64 now, out]
def startM (xn : TrM) : TrM := ⟨⟨1, 2, 3, 4, 1, 1, 0, 0, 0, 0, 0, false, 0, 0⟩, 2, xn.v, xn.A3, xn.n3, xn.c3⟩
theorem cabX_0 (m : TpM) (xn : TrM) (now : Int) (hq : xn.q = q19) (hnx : xn.nx = 1) : cabC m train19 xn now = cabX m xn.v xn.A3 xn.n3 xn.c3 now 0 0 1 (.slice none 0 0) := by
 obtain ⟨q, nx, v, A3, n3, c3⟩ := xn
 simp only at hq hnx
 subst hq
 subst hnx
 apply Array.ext'
 unfold cabC
 rw [Array.toList_append, Array.toList_append]
 kernel_rfl
theorem cabX_peer (m : TpM) (v : MaM) (A3 : Option Addr) (n3 c3 : Nat) (now : Int) (o : Value) : putAt (cabX m v A3 n3 c3 now 0 0 1 o) 15 peer1.toList = cabX m v A3 n3 c3 now 1 1 1 o := by kernel_rfl
theorem cabX_on (m : TpM) (v : MaM) (A3 : Option Addr) (n3 c3 : Nat) (now : Int) (o : Value) : (cabX m v A3 n3 c3 now 1 1 1 o).setIfInBounds 37 (.bool false) = cabX m v A3 n3 c3 now 1 1 1 o := by kernel_rfl
theorem cabX_next (m : TpM) (v : MaM) (A3 : Option Addr) (n3 c3 : Nat) (now : Int) (o : Value) : (cabX m v A3 n3 c3 now 1 1 1 o).setIfInBounds 31 (.int .u32 2) = cabX m v A3 n3 c3 now 1 1 2 o := by kernel_rfl
theorem cabX_out (m : TpM) (v : MaM) (A3 : Option Addr) (n3 c3 : Nat) (now : Int) (o : Value) : (cabX m v A3 n3 c3 now 1 1 2 (.slice none 0 0)).setIfInBounds 53 o = cabX m v A3 n3 c3 now 1 1 2 o := by kernel_rfl
theorem cabX_tr {W : World} {g : Nat} {t : TypeId} {m : TpM} {xn : TrM} {now : Int} {o : Value} (hB : Blk W g t (cabX m xn.v xn.A3 xn.n3 xn.c3 now 1 1 2 o)) : W.rangeAt g 4 (trC train19 (startM xn)).toList := by
 intro j v hv
 rw [hB.cell]
 have hj : j < 48 := by
  have := (List.getElem?_eq_some_iff.1 hv).1
  simpa [trC_size] using this
 have e : ∀ j, j < 48 → (cabX m xn.v xn.A3 xn.n3 xn.c3 now 1 1 2 o)[4 + j]? = (trC train19 (startM xn)).toList[j]? := by
  intro j hj
  have : (cabX m xn.v xn.A3 xn.n3 xn.c3 now 1 1 2 o).toList.drop 4 = (trC train19 (startM xn)).toList ++ [.int .i64 now, o] := by kernel_rfl
  rw [← Array.getElem?_toList, ← List.getElem?_drop, this, List.getElem?_append_left (by simpa [trC_size] using hj)]
 rw [e j hj]
 exact hv
theorem cabX_ask {W : World} {g : Nat} {t : TypeId} {m : TpM} {v : MaM} {A3 : Option Addr} {n3 c3 : Nat} {now : Int} {o : Value} (hB : Blk W g t (cabX m v A3 n3 c3 now 0 0 1 o)) : W.rangeAt g 15 peer0.toList := by
 intro j u hu
 rw [hB.cell]
 have hj : j < 16 := (List.getElem?_eq_some_iff.1 hu).1
 have : ((cabX m v A3 n3 c3 now 0 0 1 o).toList.drop 15).take 16 = peer0.toList := by kernel_rfl
 rw [← this, List.getElem?_take_of_lt hj, List.getElem?_drop, Array.getElem?_toList] at hu
 exact hu
open Go.RowKit Go.Shelf
theorem wpList_mid_g {P : Program} {ops : Array Oper} {rest : List Oper} {o : Oper} {a : Act} {W : World} {Q : Exit → Act → World → Prop} {g : Nat} {t : TypeId} {old : Array Value} (i : Nat) (cells : Array Value) (hB : Blk W g t old) (hgd : o.guard = none) (ty : TypeId) (x y : Operand) (ho : o.op = .store ty x y) (hx : a.eval x = .pointer (some ⟨g, i, none⟩)) (hy : a.eval y = .agg cells)
  (hi : (P.info? ty).map (·.size) = some cells.size) (hold : i + cells.size ≤ old.size) (h1 : cells.all (·.oneCell') = true)
  (h : ∀ W' : World, Blk W' g t (putAt old i cells.toList) → W.grownBy W' (some g) → wpList P ops Q rest (a.put o.dst undef) W') : wpList P ops Q (o :: rest) a W := by
 obtain ⟨s1, s2, s3, s4, s5⟩ := setCells_heap g cells.toList i W
 refine wpList_store_mid hgd ty x y ho g i cells hx hy ?_ hi h1 (h _ (Blk.cells_ cells.toList i old W hB) ⟨s3, s4, s5, Nat.le_of_eq s1.symm, fun k _ hne => s2 k (fun e => hne (by rw [e]))⟩)
 intro j hj
 have hc : W.cell? ⟨g, i + j, none⟩ = some (old[i + j]'(by omega)) := by rw [hB.cell]; simp
 exact ⟨by rw [hc]; rfl, hB.frozen _⟩
theorem wpList_cell_g {P : Program} {ops : Array Oper} {rest : List Oper} {o : Oper} {a : Act} {W : World} {Q : Exit → Act → World → Prop} {g : Nat} {t : TypeId} {old : Array Value} (i : Nat) (v : Value) (hB : Blk W g t old) (hgd : o.guard = none) (ty : TypeId) (x y : Operand) (ho : o.op = .store ty x y) (hx : a.eval x = .pointer (some ⟨g, i, none⟩)) (hy : a.eval y = v)
  (hi : (P.info? ty).map (·.size) = some 1) (hil : i < old.size) (h1 : v.oneCell' = true)
  (h : ∀ W' : World, Blk W' g t (old.setIfInBounds i v) → W.grownBy W' (some g) → wpList P ops Q rest (a.put o.dst undef) W') : wpList P ops Q (o :: rest) a W :=
 wpList_plain hgd fun _ hK => wp_store_c1 ty x y ho g i hx v hy t old hB hil hi h1 (hK _ _ (h _ (hB.set_ i v) (grown1 _ _ _ _)))
set_option maxRecDepth 8000 in
set_option maxHeartbeats 8000000 in
theorem start_c {w : World} {m : TpM} {v : MaM} {A3 : Option Addr} {n3 c3 : Nat} {now : Int} {gc : Nat} (hgc : Blk w gc 101 (cabX m v A3 n3 c3 now 0 0 1 (.slice none 0 0))) : Calls Tryz.prog 35 #[.pointer (some ⟨gc, 0, none⟩), .agg #[.int .i64 0, .int .i64 0, .slice none 0 0]] w fun e w' => e = .returned (.int .i64 0) ∧ ∃ A c, Blk w' gc 101 (cabX m v A3 n3 c3 now 1 1 2 (.slice A 1 c)) ∧ w.grownBy w' (some gc) := by
 have hb0 : Below w.heap.size w (w.alloc (.cells #[.int .i64 0, .int .i64 0, .slice none 0 0] 49)) := (Below.refl _ _).alloc (Nat.le_refl _) _
 have hg0 := hgc.below hb0 hgc.lt
 have hlt := hgc.lt
 have x31 : (cabX m v A3 n3 c3 now 0 0 1 (.slice none 0 0))[31]? = some (.int .u32 1) := rfl
 clear hgc
 go_enter Tryz.func35, Tryz.ntmps35
 go_wp2_with fail
 generalize hge : (w.alloc (.cells #[.int .i64 0, .int .i64 0, .slice none 0 0] 49)) = W0 at *
 clear hge
 apply wp_region_lextu (Below W0.heap.size) (fun W => below_drewN (Below.refl _ _) 1) (fun _ _ _ h1 h2 => h1.trans h2) (WaysC W0.heap.size 17 34 18 145) (fun _ _ _ h => h.1) (fun _ _ => waysC_same _ _ _ _ _ _ _) (fun _ _ => True) (fun _ => trivial) (fun _ _ _ _ _ _ _ => trivial)
 case hFl =>
  intro u
  simp only [List.map, fill, Act.put, List.setIfInBounds_toArray, List.set_cons_zero, List.set_cons_succ, Nat.reduceAdd, Nat.zero_add]
  with_reducible rfl
 case hm => kernel_rfl
 case hB => kernel_rfl
 case hA => kernel_rfl
 case hap => kernel_rfl
 apply LexTU.is
 ·
  (
   intro u w' hk hpre hd
   simp [WaitedU, Region.binds, Own1, Is] at hd
   refine lookedT_want ?_ ?_
   ·
    first
    | rfl
    |(simp [Region.wanted, yielded, hd]; done)
   intro K hK
   skip
   go_wp2_with (fail)
   try simp only [hd] at hK
   refine hK _ _ ?_ rfl
   first | exact waysC_same _ _ _ _ _ _ _ | exact waysC_below hk.size hb3 (by decide) (by decide))
 apply LexTU.is
 ·
  (
   intro u w' hk hpre hd
   simp [WaitedU, Region.binds, Own1, Is] at hd
   refine lookedT_want ?_ ?_
   ·
    first
    | rfl
    |(simp [Region.wanted, yielded, hd]; done)
   intro K hK
   skip
   go_wp2_with (fail)
   try simp only [hd] at hK
   refine hK _ _ ?_ rfl
   first | exact waysC_same _ _ _ _ _ _ _ | exact waysC_below hk.size hb3 (by decide) (by decide))
 apply LexTU.is
 ·
  (
   intro u w' hk hpre hd
   simp [WaitedU, Region.binds, Own1, Is] at hd
   refine lookedT_want ?_ ?_
   ·
    first
    | rfl
    |(simp [Region.wanted, yielded, hd]; done)
   intro K hK
   skip
   go_wp2_with (fail)
   try simp only [hd] at hK
   refine hK _ _ ?_ rfl
   first | exact waysC_same _ _ _ _ _ _ _ | exact waysC_below hk.size hb3 (by decide) (by decide))
 apply LexTU.is
 ·
  (
   intro u w' hk hpre hd
   simp [WaitedU, Region.binds, Own1, Is] at hd
   refine lookedT_want ?_ ?_
   ·
    first
    | rfl
    |(simp [Region.wanted, yielded, hd]; done)
   intro K hK
   skip
   go_wp2_with (fail)
   try simp only [hd] at hK
   refine hK _ _ ?_ rfl
   first | exact waysC_same _ _ _ _ _ _ _ | exact waysC_below hk.size hb3 (by decide) (by decide))
 refine LexTU.is (c := .agg peer0) ?_ ?_
 ·
  intro u w' hk hpre hd
  simp [WaitedU, Region.binds, Own1, Is] at hd
  refine lookedT_want (by first | rfl | simp [Region.wanted, yielded]) ?_
  intro K hK
  exact wp_load_mid 34 _ rfl gc 15 (by rw [← hd]; rfl) peer0.toList _ (cabX_ask (hg0.below hk hg0.lt)) Tryz.underlying34 rfl (by kernel_rfl) (hK _ _ (waysC_same _ _ _ _ _ _ _) rfl)
 apply LexTU.is
 ·
  (
   intro u w' hk hpre hd
   simp [WaitedU, Region.binds, Own1, Is] at hd
   refine lookedT_want ?_ ?_
   ·
    first
    | rfl
    |(simp [Region.wanted, yielded, hd]; done)
   intro K hK
   skip
   go_wp2_with (fail)
   try simp only [hd] at hK
   refine hK _ _ ?_ rfl
   first | exact waysC_same _ _ _ _ _ _ _ | exact waysC_below hk.size hb3 (by decide) (by decide))
 apply LexTU.is
 ·
  (
   intro u w' hk hpre hd
   simp [WaitedU, Region.binds, Own1, Is] at hd
   refine lookedT_want ?_ ?_
   ·
    first
    | rfl
    |(simp [Region.wanted, yielded, hd]; done)
   intro K hK
   skip
   go_wp2_with (fail)
   try simp only [hd] at hK
   refine hK _ _ ?_ rfl
   first | exact waysC_same _ _ _ _ _ _ _ | exact waysC_below hk.size hb3 (by decide) (by decide))
 apply LexTU.is
 ·
  (
   intro u w' hk hpre hd
   simp [WaitedU, Region.binds, Own1, Is] at hd
   refine lookedT_want ?_ ?_
   ·
    first
    | rfl
    |(simp [Region.wanted, yielded, hd]; done)
   intro K hK
   skip
   go_wp2_with (fail)
   try simp only [hd] at hK
   refine hK _ _ ?_ rfl
   first | exact waysC_same _ _ _ _ _ _ _ | exact waysC_below hk.size hb3 (by decide) (by decide))
 apply LexTU.is
 ·
  (
   intro u w' hk hpre hd
   simp [WaitedU, Region.binds, Own1, Is] at hd
   refine lookedT_want ?_ ?_
   ·
    first
    | rfl
    |(simp [Region.wanted, yielded, hd]; done)
   intro K hK
   skip
   go_wp2_with (fail)
   try simp only [hd] at hK
   refine hK _ _ ?_ rfl
   first | exact waysC_same _ _ _ _ _ _ _ | exact waysC_below hk.size hb3 (by decide) (by decide))
 apply LexTU.is
 ·
  (
   intro u w' hk hpre hd
   simp [WaitedU, Region.binds, Own1, Is] at hd
   refine lookedT_want ?_ ?_
   ·
    first
    | rfl
    |(simp [Region.wanted, yielded, hd]; done)
   intro K hK
   have hcy := (hg0.below hk hg0.lt).cell 31; rw [x31] at hcy
   go_wp2_with (fail)
   try simp only [hd] at hK
   refine hK _ _ ?_ rfl
   first | exact waysC_same _ _ _ _ _ _ _ | exact waysC_below hk.size hb3 (by decide) (by decide))
 apply LexTU.is
 ·
  (
   intro u w' hk hpre hd
   simp [WaitedU, Region.binds, Own1, Is] at hd
   refine lookedT_want ?_ ?_
   ·
    first
    | rfl
    |(simp [Region.wanted, yielded, hd]; done)
   intro K hK
   skip
   go_wp2_with ((first | (go_at_call 82; (with_reducible refine (ask_c _).mono ?_); rintro e w3 ⟨rfl, hb3⟩)))
   try simp only [hd] at hK
   refine hK _ _ ?_ rfl
   first | exact waysC_same _ _ _ _ _ _ _ | exact waysC_below hk.size hb3 (by decide) (by decide))
 apply LexTU.is
 ·
  (
   intro u w' hk hpre hd
   simp [WaitedU, Region.binds, Own1, Is] at hd
   refine lookedT_want ?_ ?_
   ·
    first
    | rfl
    |(simp [Region.wanted, yielded, hd]; done)
   intro K hK
   skip
   go_wp2_with (fail)
   try simp only [hd] at hK
   refine hK _ _ ?_ rfl
   first | exact waysC_same _ _ _ _ _ _ _ | exact waysC_below hk.size hb3 (by decide) (by decide))
 apply LexTU.is
 ·
  (
   intro u w' hk hpre hd
   simp [WaitedU, Region.binds, Own1, Is] at hd
   refine lookedT_want ?_ ?_
   ·
    first
    | rfl
    |(simp [Region.wanted, yielded, hd]; done)
   intro K hK
   skip
   go_wp2_with (fail)
   try simp only [hd] at hK
   refine hK _ _ ?_ rfl
   first | exact waysC_same _ _ _ _ _ _ _ | exact waysC_below hk.size hb3 (by decide) (by decide))
 apply LexTU.is
 ·
  (
   intro u w' hk hpre hd
   simp [WaitedU, Region.binds, Own1, Is] at hd
   refine lookedT_want ?_ ?_
   ·
    first
    | rfl
    |(simp [Region.wanted, yielded, hd]; done)
   intro K hK
   skip
   go_wp2_with (fail)
   try simp only [hd] at hK
   refine hK _ _ ?_ rfl
   first | exact waysC_same _ _ _ _ _ _ _ | exact waysC_below hk.size hb3 (by decide) (by decide))
 apply LexTU.is
 ·
  (
   intro u w' hk hpre hd
   simp [WaitedU, Region.binds, Own1, Is] at hd
   refine lookedT_want ?_ ?_
   ·
    first
    | rfl
    |(simp [Region.wanted, yielded, hd]; done)
   intro K hK
   skip
   go_wp2_with (fail)
   try simp only [hd] at hK
   refine hK _ _ ?_ rfl
   first | exact waysC_same _ _ _ _ _ _ _ | exact waysC_below hk.size hb3 (by decide) (by decide))
 refine LexTU.one (BoxB W0.heap.size 34 16) ?_ ?_
 ·
  intro u w' hk hpre hd
  clear hd
  refine lookedT_want (by first | rfl | simp [Region.wanted, yielded]) ?_
  intro K hK
  go_wp2_with fail
  exact hK _ _ (waysC_below hk.size ((Below.refl _ _).alloc (Nat.le_refl _) _) (by decide) (by decide)) ⟨w'.heap.size, _, rfl, hk.size, Blk.new _ _ _, rfl⟩
 refine LexTU.one (BoxB W0.heap.size 145 7) ?_ ?_
 ·
  intro u w' hk hpre hd
  clear hd
  refine lookedT_want (by first | rfl | simp [Region.wanted, yielded]) ?_
  intro K hK
  go_wp2_with fail
  exact hK _ _ (waysC_below hk.size ((Below.refl _ _).alloc (Nat.le_refl _) _) (by decide) (by decide)) ⟨w'.heap.size, _, rfl, hk.size, Blk.new _ _ _, rfl⟩
 refine LexTU.word (FullB W0.heap.size 15 34 peer1) ?_ ?_
 ·
  intro u w' hk hpre hd
  simp [WaitedU, Region.binds, Own1, Is] at hd
  obtain ⟨⟨g, cs, hpg, hg, hbk, hsz⟩, h12, _⟩ := hd
  refine lookedU_want (by first | rfl | simp [Region.wanted, yielded]) ?_
  intro K hK
  have hfar : ∀ k, k ≠ g → (w'.setRow g peer1).heap[k]? = w'.heap[k]? := fun k hk => setRow_other w' g k _ hk
  exact wp_store_row 34 _ _ rfl g peer1 (by rw [← hpg]; rfl) (by rw [← h12]; rfl) 34 cs hbk (by kernel_rfl) (hsz.trans rfl) (by kernel_rfl) (hK undef _ ⟨below_row (Below.refl _ _) hg _, fun h _ => absurd rfl h, fun _ => .inr ⟨g, cs, peer1, hbk, hbk.row _, hsz.symm, by simp [World.setRow], hfar⟩, fun e => absurd e (by decide)⟩ ⟨g, by rw [upd_other u undef (by decide)]; exact hpg, hg, hbk.row _⟩)
 refine LexTU.word (FullB W0.heap.size 16 145 pdu1) ?_ ?_
 ·
  intro u w' hk hpre hd
  simp [WaitedU, Region.binds, Own1, Is] at hd
  obtain ⟨⟨g, cs, hpg, hg, hbk, hsz⟩, h13, _⟩ := hd
  refine lookedU_want (by first | rfl | simp [Region.wanted, yielded]) ?_
  intro K hK
  have hfar : ∀ k, k ≠ g → (w'.setRow g pdu1).heap[k]? = w'.heap[k]? := fun k hk => setRow_other w' g k _ hk
  exact wp_store_row 145 _ _ rfl g pdu1 (by rw [← hpg]; rfl) (by rw [← h13]; rfl) 145 cs hbk (by kernel_rfl) (hsz.trans rfl) (by kernel_rfl) (hK undef _ ⟨below_row (Below.refl _ _) hg _, fun _ h => absurd rfl h, fun e => absurd e (by decide), fun _ => .inr ⟨g, cs, pdu1, hbk, hbk.row _, hsz.symm, by simp [World.setRow], hfar⟩⟩ ⟨g, by rw [upd_other u undef (by decide)]; exact hpg, hg, hbk.row _⟩)
 refine LexTU.last (stW_last ?_) ?_
 ·
  simp only [List.nil_append, List.cons_append]
  repeat (refine ⟨?_, ?_⟩; · first | exact stableW_is _ | exact stableC_box | exact stableC_full1 (by kernel_rfl) (by decide) | exact stableC_full2 (by kernel_rfl) (by decide))
  exact trivial
 intro u w1 hk _ hd
 simp only [List.nil_append, List.cons_append] at hd
 obtain ⟨gA, eA, hgA, hA⟩ := hd 17 _ rfl
 obtain ⟨gB, eB, hgB, hBx⟩ := hd 18 _ rfl
 have h14 := hd 14 _ rfl
 simp only [Own1, Is] at h14
 clear hd
 have hg1 := hg0.below hk hg0.lt
 have hG1 := below_grownBy (hb0.trans (hk.mono hb0.size)) (some gc)
 refine ⟨by first | rfl | simp [Region.wanted, yielded], ?_⟩
 intro K hK
 simp only [eA, eB, h14]
 clear eA eB h14 hk hg0 x31
 have hA' : w1.heap[gA]? = some (.cells peer1 34 (0, 0)) := hA
 have y31 : (cabX m v A3 n3 c3 now 1 1 1 (.slice none 0 0))[31]? = some (.int .u32 1) := rfl
 have y53 : (cabX m v A3 n3 c3 now 1 1 2 (.slice none 0 0))[53]? = some (.slice none 0 0) := rfl
 go_wp2_with (first
  |(with_reducible refine wpList_load_row rfl 34 _ rfl gA rfl 34 peer1 (0, 0) _ hA' Tryz.underlying34 rfl (by kernel_rfl) ?_)
  |((with_reducible refine wpList_mid_g 15 peer1 hg1 rfl _ _ _ rfl rfl rfl (by kernel_rfl) (by simp [cabX, peer1]) (by kernel_rfl) ?_); intro wR1 hgR1 hGR1; rw [cabX_peer] at hgR1; have hB1 := hBx.grown hGR1 (by intro e; simp only [Option.some.injEq] at e; exact blk_ne hBx hg1 (by decide) e))
  |((with_reducible refine wpList_cell_g 37 (.bool false) hgR1 rfl _ _ _ rfl rfl rfl (by kernel_rfl) (by simp [cabX]) rfl ?_); intro wR2 hgR2 hGR2; rw [cabX_on] at hgR2; have hB2 := hB1.grown hGR2 (by intro e; simp only [Option.some.injEq] at e; exact blk_ne hB1 hgR1 (by decide) e); have hc2 := hgR2.cell 31; rw [y31] at hc2)
  |((with_reducible refine wpList_cell_g 31 (.int .u32 2) hgR2 rfl _ _ _ rfl rfl rfl (by kernel_rfl) (by simp [cabX]) rfl ?_); intro wR3 hgR3 hGR3; rw [cabX_next] at hgR3; have hB3 := hB2.grown hGR3 (by intro e; simp only [Option.some.injEq] at e; exact blk_ne hB2 hgR2 (by decide) e); have hB3' : wR3.heap[gB]? = some (.cells pdu1 145 (0, 0)) := hB3)
  |(with_reducible refine wpList_load_row rfl 145 _ rfl gB rfl 145 pdu1 (0, 0) _ hB3' Tryz.underlying145 rfl (by kernel_rfl) ?_)
  |(go_at_call 83; (with_reducible refine (send_c hgR3 y53).mono ?_); rintro e wS ⟨rfl, A, c, hgS, hGS⟩; rw [cabX_out] at hgS))
 go_ret
 exact ⟨rfl, A, c, hgS, grownBy_trans (grownBy_trans (grownBy_trans (grownBy_trans hG1 hGR1) hGR2) hGR3) hGS⟩
open Go.RowKit Go.Shelf
def boolM : Value → Nat
 | .bool true => 1
 | _ => 0
set_option maxRecDepth 8000 in
set_option maxHeartbeats 8000000 in
theorem chain_c {w : World} {m : TpM} {bl : Nat} (h : TpIs w line16 m) (hL : Blk w bl 86 #[.int .i64 1, .int .i64 5, .int .i64 1]) :
  Calls Tryz.prog 73 #[.agg m.cells, .slice (some ⟨bl, 0, none⟩) 1 1, .int .i64 5, .agg #[.int .i64 0, .bool false]] w fun e w' => ∃ A c, e = .returned (.slice A 1 c) ∧ RowsAt encLo w' A [⟨1, 5, 1⟩] ∧ Below w.heap.size w w' := by
 have hO : Own w _ [_, _, _, _] := Own.start4 w 27 87 3 95 m.cells #[.slice (some ⟨bl, 0, none⟩) 1 1] #[.int .i64 5] #[.int .i64 0, .bool false]
 have hck := fun W (hW : Below w.heap.size w W) => check_m (h.below hW)
 rw [show checkT line16 = 0 by decide +kernel] at hck
 go_enter Tryz.func73, Tryz.ntmps73
 go_wp2_with (first
  |((with_reducible refine own_loadg0 hO ?_ _ rfl rfl _ Tryz.underlying27 rfl (by kernel_rfl) ?_); (· first | rfl | (simp [Region.wanted, yielded]; done)))
  |(go_at_call 70; (with_reducible refine (hck _ hO.below).mono ?_); rintro e w1 ⟨rfl, hb1⟩; replace hO := hO.grow hb1; have hO5 := hO.alloc 87 #[.slice none 0 0] w1.heap.size rfl; have hO6 := hO5.alloc 39 #[.slice none 0 0] (w1.heap.size + 1) (by simp); simp only [List.cons_append, List.nil_append] at hO6)
  |(go_at_call 126; (with_reducible refine (chain1_k h hL hO6).mono ?_); rintro e w2 ⟨rfl, A, c, o2, hO7, hR7⟩; unfold chainL at hO7; obtain ⟨b, off, eA, hbl, _⟩ := hR7.get (i := 0) (x := ⟨1, 5, 1⟩) rfl; subst eA))
 have hb0 : Below w2.heap.size w2 w2 := Below.refl _ _
 go_loopw [13] (fun s wr => ∃ q : Bool, s = .bool q ∧ Below w2.heap.size w2 wr) (fun s _ => boolM s)
 case atStart => exact ⟨true, rfl, hb0⟩
 case round =>
  obtain ⟨q, rfl, hbr⟩ := hrel
  have hOr := hO7.grow hbr
  have hRr := hR7.below hbr
  have hco := hOr.b4.cell
  cases q with
  | true =>
   go_wp2_with (first
    |(go_at_call 126; (with_reducible refine (chain1b_k h hL hOr hRr).mono ?_); rintro e w3 ⟨rfl, hb3⟩; have hbr3 := hbr.trans (hb3.mono hbr.size)))
   go_roundw
   case rel => exact ⟨false, rfl, hbr3⟩
   case measure => simp [boolM]
  | false =>
   go_wp2_with fail
   go_ret
   exact ⟨_, c, rfl, hRr, hOr.below⟩
end Go.Proofs.YtkaggddmhjifjaaGreatDoor
