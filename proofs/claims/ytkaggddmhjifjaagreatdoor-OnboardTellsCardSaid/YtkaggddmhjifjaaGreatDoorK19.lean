/- Texts in one: StepA. -/
import Derived.Test.YtkaggddmhjifjaaGreatDoorK18
set_option linter.unusedSimpArgs false
set_option linter.unusedVariables false
namespace Go.Proofs.YtkaggddmhjifjaaGreatDoor
open Go.RowKit Go.Shelf
def stepE (t : Tp) (x : Tr) (n now : Int) : Int := if mayX t x = false ∨ clockP now = false then 1 else movedE t x n now
def StepPost (w : World) (t : Tp) (x : Tr) (n now : Int) (e : Ending) (w' : World) : Prop := ∃ cs, e = .returned (.tuple #[.agg cs, .slice none 0 0, .int .i64 (stepE t x n now)]) ∧ Below w.heap.size w w' ∧ (stepE t x n now ≠ 0 → cs = zeroTr) ∧ (stepE t x n now = 0 → ∃ xn, cs = trC (movedR t x n now) xn ∧ TrIs w' (movedR t x n now) xn)
set_option maxRecDepth 8000 in
set_option maxHeartbeats 16000000 in
theorem stepM_k {w : World} {t : Tp} {m : TpM} (h : TpIs w t m) (x : Tr) (xm : TrM) (hx : TrIs w x xm) (n now : Int) : Calls Tryz.prog 18 #[.agg m.cells, .agg (trC x xm), .agg #[.int .i64 4, .int .i64 n, .slice none 0 0], .int .i64 now] w (StepPost w t x n now) := by
 have hO : Own w _ [_, _, _, _, _] := Own.start5 w 27 44 49 3 44 m.cells (trC x xm) #[.int .i64 4, .int .i64 n, .slice none 0 0] #[.int .i64 now] zeroTr
 have hcp := fun W (hW : Below w.heap.size w W) => copied_k x xm W (hx.below hW)
 have hmx := fun W (hW : Below w.heap.size w W) => mayX_m (h.below hW) x xm (hx.below hW)
 unfold zeroTr at hO
 have hcl := hO.b0.cell
 have hcx := hO.b1.cell
 have hcc := hO.b2.cell
 have hcn := hO.b3.cell
 have hE : stepE t x n now = if mayX t x = false ∨ clockP now = false then 1 else movedE t x n now := rfl
 unfold StepPost
 unfold clockP at hE
 cases hmb : mayX t x with
 | false =>
  rw [if_pos (.inl hmb)] at hE
  rw [hmb] at hmx
  rw [hE]
  clear hE hmb
  go_enter Tryz.func18, Tryz.ntmps18
  go_wp2_with fail
  generalize hge : (((((w.alloc (.cells m.cells 27)).alloc (.cells (trC x xm) 44)).alloc (.cells #[.int .i64 4, .int .i64 n, .slice none 0 0] 49)).alloc (.cells #[.int .i64 now] 3)).alloc (.cells #[.int .i64 0, .int .i64 0, .int .i64 0, .int .i64 0, .int .i64 0, .int .i64 0, .int .i64 0, .int .i64 0, .int .i64 0, .int .i64 0, .int .i64 0, .int .i64 0, .int .i64 0, .int .u32 0, .int .u32 0, .int .u32 0, .int .u32 0, .int .i64 0, .int .u32 0, .int .u32 0, .int .u32 0, .int .u32 0, .int .u32 0, .int .u32 0, .bool false, .int .u32 0, .int .u32 0, .int .u32 0, .int .i64 0, .int .i64 0, .int .i64 0, .bool false, .int .i64 0, .bool false, .int .i64 0, .int .i64 0, .bool false, .int .i64 0, .int .i64 0, .bool false, .int .i64 0, .bool false, .slice none 0 0, .slice none 0 0, .int .i64 0, .int .i64 0, .bool false, .slice none 0 0] 44)) = W0 at *
  clear hge hcl hcx hcc hcn
  apply wp_region_lexl
  case hFl =>
   intro u
   simp only [List.map, fill, Act.put, List.setIfInBounds_toArray, List.set_cons_zero, List.set_cons_succ, Nat.reduceAdd, Nat.zero_add]
   rfl
  case hm => kernel_rfl
  case hB => kernel_rfl
  case hA => kernel_rfl
  case hap => kernel_rfl
  refine LexL.is (c := .agg (m.cells)) ?_ ?_
  ·
   (
    intro u w' hk hd
    have hbk := (hO.b0).below hk (hO.b0).lt
    refine looked_want (by first | rfl | simp [Region.wanted, yielded]) ?_
    intro K hK
    exact wp_load_row 27 _ rfl _ rfl 27 _ (0, 0) _ hbk Tryz.underlying27 rfl (by kernel_rfl) (hK _ _ (Below.refl _ _) rfl))
  refine LexL.is (c := .agg (trC x xm)) ?_ ?_
  ·
   (
    intro u w' hk hd
    have hbk := (hO.b1).below hk (hO.b1).lt
    refine looked_want (by first | rfl | simp [Region.wanted, yielded]) ?_
    intro K hK
    exact wp_load_row 44 _ rfl _ rfl 44 _ (0, 0) _ hbk Tryz.underlying44 rfl (by kernel_rfl) (hK _ _ (Below.refl _ _) rfl))
  refine LexL.word (CopW W0.heap.size x xm) (grows_cop _ x xm) ?_ ?_
  ·
   intro u w' hk hd
   simp [Waited, Region.binds, Is] at hd
   refine looked_want (by first | rfl | simp [Region.wanted, yielded]) ?_
   intro K hK
   go_wp2_with (first | (go_at_call 34; (with_reducible refine (hcp _ (below_then hO.below hk)).mono ?_); rintro e w3 ⟨⟨A1, c1, A2, c2, A3, c3, rfl, hown⟩, hb3⟩))
   simp only [hd] at hK
   exact hK _ _ hb3 ⟨A1, c1, A2, c2, A3, c3, rfl, hown.mono hk.size⟩
  apply LexL.is
  ·
   (
    intro u w' hk hd
    simp [Waited, Region.binds, Is] at hd
    refine looked_want (by first | rfl | simp [Region.wanted, yielded, hd]) ?_
    intro K hK
    have hO2 := hO.grow hk; have hcn := hO2.b3.cell
    go_wp2_with (fail)
    try simp only [hd] at hK
    refine hK _ _ ?_ rfl
    first | exact Below.refl _ _ | exact hb3)
  refine LexL.word (BldW W0.heap.size m x xm now) (grows_bld _ m x xm now) ?_ ?_
  ·
   intro u w' hk hd
   simp [Waited, Region.binds, Is] at hd
   obtain ⟨e0, e2, e3⟩ := hd
   obtain ⟨A1, c1, A2, c2, A3, c3, e2, ht⟩ := e2
   refine looked_want (by first | rfl | simp [Region.wanted, yielded]) ?_
   intro K hK
   exact wp_build_is 101 _ rfl [(0, .agg m.cells), (1, .agg (trC x (trAt xm A1 c1 A2 c2 A3 c3))), (2, .int .i64 now)] (by simp [Act.eval, e0, e2, e3]) _ (built_cab m x _ now) (hK _ _ (Below.refl _ _) ⟨A1, c1, A2, c2, A3, c3, rfl, ht⟩)
  refine LexL.word (BoxW W0.heap.size m x xm now) (grows_box _ m x xm now) ?_ ?_
  ·
   intro u w' hk hd
   simp [Waited, Region.binds, Is] at hd
   obtain ⟨A1, c1, A2, c2, A3, c3, e4, ht⟩ := hd
   refine looked_want (by first | rfl | simp [Region.wanted, yielded]) ?_
   intro K hK
   go_wp2_with fail
   try simp only [e4] at hK
   exact hK _ _ ((Below.refl _ _).alloc (Nat.le_refl _) _) ⟨_, A1, c1, A2, c2, A3, c3, rfl, hk.size, Blk.new _ _ _, ht.below ((Below.refl _ _).alloc (Nat.le_refl _) _)⟩
  refine LexL.word (AlcW W0.heap.size) (grows_alc _) ?_ ?_
  ·
   intro u w' hk hd
   clear hd
   refine looked_want (by first | rfl | simp [Region.wanted, yielded]) ?_
   intro K hK
   go_wp2_with fail
   exact hK _ _ ((Below.refl _ _).alloc (Nat.le_refl _) _) ⟨_, _, rfl, hk.size, Blk.new _ _ _⟩
  apply LexL.last
  intro u w1 hk hd
  obtain ⟨gc, A1, c1, A2, c2, A3, c3, e5, hgc, hbc, ht⟩ := hd 5 _ rfl
  obtain ⟨gp, y, e6, hgp, hbp⟩ := hd 6 _ rfl
  clear hd
  refine ⟨by first | rfl | simp [Region.wanted, yielded], ?_⟩
  intro K hK
  refine wp_store_c1 98 (.tmp 11) (.tmp 21) rfl gp 0 (by rw [← e6]; rfl) (.pointer (some ⟨gc, 0, none⟩)) (by rw [← e5]; rfl) 98 _ hbp (by simp) (by kernel_rfl) rfl (hK _ _ ?_)
  have hne : gc ≠ gp := by
   rintro rfl
   unfold Blk at hbc hbp
   rw [hbc] at hbp
   simp at hbp
  have hO2 : Own w (w1.setCell ⟨gp, 0, none⟩ (.pointer (some ⟨gc, 0, none⟩))) [(w.heap.size, 27, m.cells), (w.heap.size + 1, 44, trC x xm), (w.heap.size + 1 + 1, 49, #[.int .i64 4, .int .i64 n, .slice none 0 0]), (w.heap.size + 1 + 1 + 1, 3, #[.int .i64 now]), (w.heap.size + 1 + 1 + 1 + 1, 44, zeroTr), (gc, 101, cabC m x (trAt xm A1 c1 A2 c2 A3 c3) now), (gp, 98, #[.pointer (some ⟨gc, 0, none⟩)])] := by
   have hlt := hO.b4.lt
   have h1 := (hO.grow hk).turn (b := gp) (W' := w1.setCell ⟨gp, 0, none⟩ (.pointer (some ⟨gc, 0, none⟩))) (Nat.le_trans hO.below.size hgp) (fun y hy => by have := (hO.blk y hy).2.lt; omega) (by simp [World.setCell]) (fun k _ hk => Below.heap_setCell w1 ⟨gp, 0, none⟩ _ k hk) ⟨rfl, rfl, rfl⟩
   have h2 := h1.add (hbc.far (p := ⟨gp, 0, none⟩) hne (.pointer (some ⟨gc, 0, none⟩))) (Nat.le_trans hO.below.size hgc) (fun y hy => by have := (hO.blk y hy).2.lt; omega)
   exact h2.add (hbp.set_ 0 _) (Nat.le_trans hO.below.size hgp) (fun y hy => by
    rcases List.mem_append.1 hy with hy | hy
    ·
     have := (hO.blk y hy).2.lt
     omega
    ·
     rw [List.mem_singleton] at hy
     subst hy
     exact hne)
  have ht2 : TrOwn (w1.setCell ⟨gp, 0, none⟩ (.pointer (some ⟨gc, 0, none⟩))) w.heap.size x (trAt xm A1 c1 A2 c2 A3 c3) := (TrOwn.away (w' := w1.setCell ⟨gp, 0, none⟩ (.pointer (some ⟨gc, 0, none⟩))) ht (b := gp) ⟨rfl, rfl, rfl, by simp [World.setCell], fun k _ hk => Below.heap_setCell w1 ⟨gp, 0, none⟩ _ k (fun e => hk (by rw [e]))⟩ (noRow_blk hbp (by decide))).mono hO.below.size
  simp only [e6]
  generalize w1.setCell ⟨gp, 0, none⟩ (.pointer (some ⟨gc, 0, none⟩)) = W2 at *
  clear hO hk hbc hbp ht hgc hgp hcp hK e5 e6
  obtain ⟨xn, hxn⟩ : ∃ xn, xn = trAt xm A1 c1 A2 c2 A3 c3 := ⟨_, rfl⟩
  rw [← hxn] at hO2 ht2
  have HXN := Lib.hid hxn
  clear hxn
  have hO := hO2
  clear hO2
  go_wp2_with (first
   |((with_reducible refine wpList_makeMap_own hO rfl rfl ?_); intro wR hOR hM hbR; obtain ⟨gm, hgm⟩ : ∃ g, g = W2.heap.size := ⟨_, rfl⟩; rw [← hgm] at hM ⊢; have hmB : w.heap.size ≤ gm := (by rw [hgm]; exact hO.below.size); have hmN : ∀ z ∈ ([(w.heap.size, 27, m.cells), (w.heap.size + 1, 44, trC x xm), (w.heap.size + 1 + 1, 49, #[.int .i64 4, .int .i64 n, .slice none 0 0]), (w.heap.size + 1 + 1 + 1, 3, #[.int .i64 now]), (w.heap.size + 1 + 1 + 1 + 1, 44, zeroTr), (gc, 101, cabC m x xn now), (gp, 98, #[.pointer (some ⟨gc, 0, none⟩)])] : List Bk), z.1 ≠ gm := (fun z hz => by have := (hO.blk z hz).2.lt; omega); replace ht2 := ht2.below hbR; replace hO := hOR; clear hOR hbR hgm; have hcp := hO.b6.cell)
   |((with_reducible refine wpList_insert_own hO hM hmB hmN rfl _ _ _ rfl rfl _ rfl _ rfl Tryz.underlying107 Tryz.underlying3 rfl ?_); intro wR hOR hMR hgR; replace ht2 := ht2.away hgR (noRow_map hM); clear hM; replace hM := hMR; replace hO := hOR; clear hOR hMR hgR; have hcc := hO.b2.cell; have hcn := hO.b3.cell; have hcp := hO.b6.cell)
   |((with_reducible refine wpList_lookup_own hM rfl _ _ rfl rfl _ rfl 4 _ Tryz.underlying107 Tryz.underlying3 rfl ?_))
   |((with_reducible refine own_loadg0 hO ?_ _ rfl rfl _ Tryz.underlying27 rfl (by kernel_rfl) ?_); (· first | rfl | (simp [Region.wanted, yielded]; done)))
   |((with_reducible refine own_loadg1 hO ?_ _ rfl rfl _ Tryz.underlying44 rfl (trC_info _ xm) ?_); (· first | rfl | (simp [Region.wanted, yielded]; done)))
   |(go_at_call 19; (with_reducible refine (hmx _ hO.below).mono ?_); rintro e w3 ⟨rfl, hb3⟩; clear hM; replace ht2 := ht2.below hb3; replace hO := hO.grow hb3; have hcc := hO.b2.cell; have hcn := hO.b3.cell; have hcp := hO.b6.cell)
   |((with_reducible refine own_row4 _ hO rfl _ _ rfl rfl rfl (by kernel_rfl) rfl (by kernel_rfl) ?_); intro wR hOR hszR hkR; replace hO := hOR; clear hOR))
  exact bodyPost_ret (results_ctt Tryz.results18 _ _ _ _ _ _ _ rfl rfl rfl hO.b4 Tryz.underlying44 rfl (by kernel_rfl)) rfl ⟨_, rfl, hO.below, fun _ => rfl, fun h => absurd h (by decide)⟩
 | true =>
  rw [hmb] at hE hmx
  clear hmb
  by_cases h2 : now < 0
  ·
   rw [if_pos (.inr (by simp; omega))] at hE
   rw [hE]
   have f2 : decide (now < 0) = true := by simpa using h2
   clear hE h2
   go_enter Tryz.func18, Tryz.ntmps18
   go_wp2_with fail
   generalize hge : (((((w.alloc (.cells m.cells 27)).alloc (.cells (trC x xm) 44)).alloc (.cells #[.int .i64 4, .int .i64 n, .slice none 0 0] 49)).alloc (.cells #[.int .i64 now] 3)).alloc (.cells #[.int .i64 0, .int .i64 0, .int .i64 0, .int .i64 0, .int .i64 0, .int .i64 0, .int .i64 0, .int .i64 0, .int .i64 0, .int .i64 0, .int .i64 0, .int .i64 0, .int .i64 0, .int .u32 0, .int .u32 0, .int .u32 0, .int .u32 0, .int .i64 0, .int .u32 0, .int .u32 0, .int .u32 0, .int .u32 0, .int .u32 0, .int .u32 0, .bool false, .int .u32 0, .int .u32 0, .int .u32 0, .int .i64 0, .int .i64 0, .int .i64 0, .bool false, .int .i64 0, .bool false, .int .i64 0, .int .i64 0, .bool false, .int .i64 0, .int .i64 0, .bool false, .int .i64 0, .bool false, .slice none 0 0, .slice none 0 0, .int .i64 0, .int .i64 0, .bool false, .slice none 0 0] 44)) = W0 at *
   clear hge hcl hcx hcc hcn
   apply wp_region_lexl
   case hFl =>
    intro u
    simp only [List.map, fill, Act.put, List.setIfInBounds_toArray, List.set_cons_zero, List.set_cons_succ, Nat.reduceAdd, Nat.zero_add]
    rfl
   case hm => kernel_rfl
   case hB => kernel_rfl
   case hA => kernel_rfl
   case hap => kernel_rfl
   refine LexL.is (c := .agg (m.cells)) ?_ ?_
   ·
    (
     intro u w' hk hd
     have hbk := (hO.b0).below hk (hO.b0).lt
     refine looked_want (by first | rfl | simp [Region.wanted, yielded]) ?_
     intro K hK
     exact wp_load_row 27 _ rfl _ rfl 27 _ (0, 0) _ hbk Tryz.underlying27 rfl (by kernel_rfl) (hK _ _ (Below.refl _ _) rfl))
   refine LexL.is (c := .agg (trC x xm)) ?_ ?_
   ·
    (
     intro u w' hk hd
     have hbk := (hO.b1).below hk (hO.b1).lt
     refine looked_want (by first | rfl | simp [Region.wanted, yielded]) ?_
     intro K hK
     exact wp_load_row 44 _ rfl _ rfl 44 _ (0, 0) _ hbk Tryz.underlying44 rfl (by kernel_rfl) (hK _ _ (Below.refl _ _) rfl))
   refine LexL.word (CopW W0.heap.size x xm) (grows_cop _ x xm) ?_ ?_
   ·
    intro u w' hk hd
    simp [Waited, Region.binds, Is] at hd
    refine looked_want (by first | rfl | simp [Region.wanted, yielded]) ?_
    intro K hK
    go_wp2_with (first | (go_at_call 34; (with_reducible refine (hcp _ (below_then hO.below hk)).mono ?_); rintro e w3 ⟨⟨A1, c1, A2, c2, A3, c3, rfl, hown⟩, hb3⟩))
    simp only [hd] at hK
    exact hK _ _ hb3 ⟨A1, c1, A2, c2, A3, c3, rfl, hown.mono hk.size⟩
   apply LexL.is
   ·
    (
     intro u w' hk hd
     simp [Waited, Region.binds, Is] at hd
     refine looked_want (by first | rfl | simp [Region.wanted, yielded, hd]) ?_
     intro K hK
     have hO2 := hO.grow hk; have hcn := hO2.b3.cell
     go_wp2_with (fail)
     try simp only [hd] at hK
     refine hK _ _ ?_ rfl
     first | exact Below.refl _ _ | exact hb3)
   refine LexL.word (BldW W0.heap.size m x xm now) (grows_bld _ m x xm now) ?_ ?_
   ·
    intro u w' hk hd
    simp [Waited, Region.binds, Is] at hd
    obtain ⟨e0, e2, e3⟩ := hd
    obtain ⟨A1, c1, A2, c2, A3, c3, e2, ht⟩ := e2
    refine looked_want (by first | rfl | simp [Region.wanted, yielded]) ?_
    intro K hK
    exact wp_build_is 101 _ rfl [(0, .agg m.cells), (1, .agg (trC x (trAt xm A1 c1 A2 c2 A3 c3))), (2, .int .i64 now)] (by simp [Act.eval, e0, e2, e3]) _ (built_cab m x _ now) (hK _ _ (Below.refl _ _) ⟨A1, c1, A2, c2, A3, c3, rfl, ht⟩)
   refine LexL.word (BoxW W0.heap.size m x xm now) (grows_box _ m x xm now) ?_ ?_
   ·
    intro u w' hk hd
    simp [Waited, Region.binds, Is] at hd
    obtain ⟨A1, c1, A2, c2, A3, c3, e4, ht⟩ := hd
    refine looked_want (by first | rfl | simp [Region.wanted, yielded]) ?_
    intro K hK
    go_wp2_with fail
    try simp only [e4] at hK
    exact hK _ _ ((Below.refl _ _).alloc (Nat.le_refl _) _) ⟨_, A1, c1, A2, c2, A3, c3, rfl, hk.size, Blk.new _ _ _, ht.below ((Below.refl _ _).alloc (Nat.le_refl _) _)⟩
   refine LexL.word (AlcW W0.heap.size) (grows_alc _) ?_ ?_
   ·
    intro u w' hk hd
    clear hd
    refine looked_want (by first | rfl | simp [Region.wanted, yielded]) ?_
    intro K hK
    go_wp2_with fail
    exact hK _ _ ((Below.refl _ _).alloc (Nat.le_refl _) _) ⟨_, _, rfl, hk.size, Blk.new _ _ _⟩
   apply LexL.last
   intro u w1 hk hd
   obtain ⟨gc, A1, c1, A2, c2, A3, c3, e5, hgc, hbc, ht⟩ := hd 5 _ rfl
   obtain ⟨gp, y, e6, hgp, hbp⟩ := hd 6 _ rfl
   clear hd
   refine ⟨by first | rfl | simp [Region.wanted, yielded], ?_⟩
   intro K hK
   refine wp_store_c1 98 (.tmp 11) (.tmp 21) rfl gp 0 (by rw [← e6]; rfl) (.pointer (some ⟨gc, 0, none⟩)) (by rw [← e5]; rfl) 98 _ hbp (by simp) (by kernel_rfl) rfl (hK _ _ ?_)
   have hne : gc ≠ gp := by
    rintro rfl
    unfold Blk at hbc hbp
    rw [hbc] at hbp
    simp at hbp
   have hO2 : Own w (w1.setCell ⟨gp, 0, none⟩ (.pointer (some ⟨gc, 0, none⟩))) [(w.heap.size, 27, m.cells), (w.heap.size + 1, 44, trC x xm), (w.heap.size + 1 + 1, 49, #[.int .i64 4, .int .i64 n, .slice none 0 0]), (w.heap.size + 1 + 1 + 1, 3, #[.int .i64 now]), (w.heap.size + 1 + 1 + 1 + 1, 44, zeroTr), (gc, 101, cabC m x (trAt xm A1 c1 A2 c2 A3 c3) now), (gp, 98, #[.pointer (some ⟨gc, 0, none⟩)])] := by
    have hlt := hO.b4.lt
    have h1 := (hO.grow hk).turn (b := gp) (W' := w1.setCell ⟨gp, 0, none⟩ (.pointer (some ⟨gc, 0, none⟩))) (Nat.le_trans hO.below.size hgp) (fun y hy => by have := (hO.blk y hy).2.lt; omega) (by simp [World.setCell]) (fun k _ hk => Below.heap_setCell w1 ⟨gp, 0, none⟩ _ k hk) ⟨rfl, rfl, rfl⟩
    have h2 := h1.add (hbc.far (p := ⟨gp, 0, none⟩) hne (.pointer (some ⟨gc, 0, none⟩))) (Nat.le_trans hO.below.size hgc) (fun y hy => by have := (hO.blk y hy).2.lt; omega)
    exact h2.add (hbp.set_ 0 _) (Nat.le_trans hO.below.size hgp) (fun y hy => by
     rcases List.mem_append.1 hy with hy | hy
     ·
      have := (hO.blk y hy).2.lt
      omega
     ·
      rw [List.mem_singleton] at hy
      subst hy
      exact hne)
   have ht2 : TrOwn (w1.setCell ⟨gp, 0, none⟩ (.pointer (some ⟨gc, 0, none⟩))) w.heap.size x (trAt xm A1 c1 A2 c2 A3 c3) := (TrOwn.away (w' := w1.setCell ⟨gp, 0, none⟩ (.pointer (some ⟨gc, 0, none⟩))) ht (b := gp) ⟨rfl, rfl, rfl, by simp [World.setCell], fun k _ hk => Below.heap_setCell w1 ⟨gp, 0, none⟩ _ k (fun e => hk (by rw [e]))⟩ (noRow_blk hbp (by decide))).mono hO.below.size
   simp only [e6]
   generalize w1.setCell ⟨gp, 0, none⟩ (.pointer (some ⟨gc, 0, none⟩)) = W2 at *
   clear hO hk hbc hbp ht hgc hgp hcp hK e5 e6
   obtain ⟨xn, hxn⟩ : ∃ xn, xn = trAt xm A1 c1 A2 c2 A3 c3 := ⟨_, rfl⟩
   rw [← hxn] at hO2 ht2
   have HXN := Lib.hid hxn
   clear hxn
   have hO := hO2
   clear hO2
   go_wp2_with (first
    |((with_reducible refine wpList_makeMap_own hO rfl rfl ?_); intro wR hOR hM hbR; obtain ⟨gm, hgm⟩ : ∃ g, g = W2.heap.size := ⟨_, rfl⟩; rw [← hgm] at hM ⊢; have hmB : w.heap.size ≤ gm := (by rw [hgm]; exact hO.below.size); have hmN : ∀ z ∈ ([(w.heap.size, 27, m.cells), (w.heap.size + 1, 44, trC x xm), (w.heap.size + 1 + 1, 49, #[.int .i64 4, .int .i64 n, .slice none 0 0]), (w.heap.size + 1 + 1 + 1, 3, #[.int .i64 now]), (w.heap.size + 1 + 1 + 1 + 1, 44, zeroTr), (gc, 101, cabC m x xn now), (gp, 98, #[.pointer (some ⟨gc, 0, none⟩)])] : List Bk), z.1 ≠ gm := (fun z hz => by have := (hO.blk z hz).2.lt; omega); replace ht2 := ht2.below hbR; replace hO := hOR; clear hOR hbR hgm; have hcp := hO.b6.cell)
    |((with_reducible refine wpList_insert_own hO hM hmB hmN rfl _ _ _ rfl rfl _ rfl _ rfl Tryz.underlying107 Tryz.underlying3 rfl ?_); intro wR hOR hMR hgR; replace ht2 := ht2.away hgR (noRow_map hM); clear hM; replace hM := hMR; replace hO := hOR; clear hOR hMR hgR; have hcc := hO.b2.cell; have hcn := hO.b3.cell; have hcp := hO.b6.cell)
    |((with_reducible refine wpList_lookup_own hM rfl _ _ rfl rfl _ rfl 4 _ Tryz.underlying107 Tryz.underlying3 rfl ?_))
    |((with_reducible refine own_loadg0 hO ?_ _ rfl rfl _ Tryz.underlying27 rfl (by kernel_rfl) ?_); (· first | rfl | (simp [Region.wanted, yielded]; done)))
    |((with_reducible refine own_loadg1 hO ?_ _ rfl rfl _ Tryz.underlying44 rfl (trC_info _ xm) ?_); (· first | rfl | (simp [Region.wanted, yielded]; done)))
    |(go_at_call 19; (with_reducible refine (hmx _ hO.below).mono ?_); rintro e w3 ⟨rfl, hb3⟩; clear hM; replace ht2 := ht2.below hb3; replace hO := hO.grow hb3; have hcc := hO.b2.cell; have hcn := hO.b3.cell; have hcp := hO.b6.cell)
    |((with_reducible refine own_row4 _ hO rfl _ _ rfl rfl rfl (by kernel_rfl) rfl (by kernel_rfl) ?_); intro wR hOR hszR hkR; replace hO := hOR; clear hOR))
   exact bodyPost_ret (results_ctt Tryz.results18 _ _ _ _ _ _ _ rfl rfl rfl hO.b4 Tryz.underlying44 rfl (by kernel_rfl)) rfl ⟨_, rfl, hO.below, fun _ => rfl, fun h => absurd h (by decide)⟩
  have f2 : decide (now < 0) = false := by simpa using h2
  by_cases h3 : 268435456 < now
  ·
   rw [if_pos (.inr (by simp; omega))] at hE
   rw [hE]
   have f3 : decide (268435456 < now) = true := by simpa using h3
   clear hE h3
   go_enter Tryz.func18, Tryz.ntmps18
   go_wp2_with fail
   generalize hge : (((((w.alloc (.cells m.cells 27)).alloc (.cells (trC x xm) 44)).alloc (.cells #[.int .i64 4, .int .i64 n, .slice none 0 0] 49)).alloc (.cells #[.int .i64 now] 3)).alloc (.cells #[.int .i64 0, .int .i64 0, .int .i64 0, .int .i64 0, .int .i64 0, .int .i64 0, .int .i64 0, .int .i64 0, .int .i64 0, .int .i64 0, .int .i64 0, .int .i64 0, .int .i64 0, .int .u32 0, .int .u32 0, .int .u32 0, .int .u32 0, .int .i64 0, .int .u32 0, .int .u32 0, .int .u32 0, .int .u32 0, .int .u32 0, .int .u32 0, .bool false, .int .u32 0, .int .u32 0, .int .u32 0, .int .i64 0, .int .i64 0, .int .i64 0, .bool false, .int .i64 0, .bool false, .int .i64 0, .int .i64 0, .bool false, .int .i64 0, .int .i64 0, .bool false, .int .i64 0, .bool false, .slice none 0 0, .slice none 0 0, .int .i64 0, .int .i64 0, .bool false, .slice none 0 0] 44)) = W0 at *
   clear hge hcl hcx hcc hcn
   apply wp_region_lexl
   case hFl =>
    intro u
    simp only [List.map, fill, Act.put, List.setIfInBounds_toArray, List.set_cons_zero, List.set_cons_succ, Nat.reduceAdd, Nat.zero_add]
    rfl
   case hm => kernel_rfl
   case hB => kernel_rfl
   case hA => kernel_rfl
   case hap => kernel_rfl
   refine LexL.is (c := .agg (m.cells)) ?_ ?_
   ·
    (
     intro u w' hk hd
     have hbk := (hO.b0).below hk (hO.b0).lt
     refine looked_want (by first | rfl | simp [Region.wanted, yielded]) ?_
     intro K hK
     exact wp_load_row 27 _ rfl _ rfl 27 _ (0, 0) _ hbk Tryz.underlying27 rfl (by kernel_rfl) (hK _ _ (Below.refl _ _) rfl))
   refine LexL.is (c := .agg (trC x xm)) ?_ ?_
   ·
    (
     intro u w' hk hd
     have hbk := (hO.b1).below hk (hO.b1).lt
     refine looked_want (by first | rfl | simp [Region.wanted, yielded]) ?_
     intro K hK
     exact wp_load_row 44 _ rfl _ rfl 44 _ (0, 0) _ hbk Tryz.underlying44 rfl (by kernel_rfl) (hK _ _ (Below.refl _ _) rfl))
   refine LexL.word (CopW W0.heap.size x xm) (grows_cop _ x xm) ?_ ?_
   ·
    intro u w' hk hd
    simp [Waited, Region.binds, Is] at hd
    refine looked_want (by first | rfl | simp [Region.wanted, yielded]) ?_
    intro K hK
    go_wp2_with (first | (go_at_call 34; (with_reducible refine (hcp _ (below_then hO.below hk)).mono ?_); rintro e w3 ⟨⟨A1, c1, A2, c2, A3, c3, rfl, hown⟩, hb3⟩))
    simp only [hd] at hK
    exact hK _ _ hb3 ⟨A1, c1, A2, c2, A3, c3, rfl, hown.mono hk.size⟩
   apply LexL.is
   ·
    (
     intro u w' hk hd
     simp [Waited, Region.binds, Is] at hd
     refine looked_want (by first | rfl | simp [Region.wanted, yielded, hd]) ?_
     intro K hK
     have hO2 := hO.grow hk; have hcn := hO2.b3.cell
     go_wp2_with (fail)
     try simp only [hd] at hK
     refine hK _ _ ?_ rfl
     first | exact Below.refl _ _ | exact hb3)
   refine LexL.word (BldW W0.heap.size m x xm now) (grows_bld _ m x xm now) ?_ ?_
   ·
    intro u w' hk hd
    simp [Waited, Region.binds, Is] at hd
    obtain ⟨e0, e2, e3⟩ := hd
    obtain ⟨A1, c1, A2, c2, A3, c3, e2, ht⟩ := e2
    refine looked_want (by first | rfl | simp [Region.wanted, yielded]) ?_
    intro K hK
    exact wp_build_is 101 _ rfl [(0, .agg m.cells), (1, .agg (trC x (trAt xm A1 c1 A2 c2 A3 c3))), (2, .int .i64 now)] (by simp [Act.eval, e0, e2, e3]) _ (built_cab m x _ now) (hK _ _ (Below.refl _ _) ⟨A1, c1, A2, c2, A3, c3, rfl, ht⟩)
   refine LexL.word (BoxW W0.heap.size m x xm now) (grows_box _ m x xm now) ?_ ?_
   ·
    intro u w' hk hd
    simp [Waited, Region.binds, Is] at hd
    obtain ⟨A1, c1, A2, c2, A3, c3, e4, ht⟩ := hd
    refine looked_want (by first | rfl | simp [Region.wanted, yielded]) ?_
    intro K hK
    go_wp2_with fail
    try simp only [e4] at hK
    exact hK _ _ ((Below.refl _ _).alloc (Nat.le_refl _) _) ⟨_, A1, c1, A2, c2, A3, c3, rfl, hk.size, Blk.new _ _ _, ht.below ((Below.refl _ _).alloc (Nat.le_refl _) _)⟩
   refine LexL.word (AlcW W0.heap.size) (grows_alc _) ?_ ?_
   ·
    intro u w' hk hd
    clear hd
    refine looked_want (by first | rfl | simp [Region.wanted, yielded]) ?_
    intro K hK
    go_wp2_with fail
    exact hK _ _ ((Below.refl _ _).alloc (Nat.le_refl _) _) ⟨_, _, rfl, hk.size, Blk.new _ _ _⟩
   apply LexL.last
   intro u w1 hk hd
   obtain ⟨gc, A1, c1, A2, c2, A3, c3, e5, hgc, hbc, ht⟩ := hd 5 _ rfl
   obtain ⟨gp, y, e6, hgp, hbp⟩ := hd 6 _ rfl
   clear hd
   refine ⟨by first | rfl | simp [Region.wanted, yielded], ?_⟩
   intro K hK
   refine wp_store_c1 98 (.tmp 11) (.tmp 21) rfl gp 0 (by rw [← e6]; rfl) (.pointer (some ⟨gc, 0, none⟩)) (by rw [← e5]; rfl) 98 _ hbp (by simp) (by kernel_rfl) rfl (hK _ _ ?_)
   have hne : gc ≠ gp := by
    rintro rfl
    unfold Blk at hbc hbp
    rw [hbc] at hbp
    simp at hbp
   have hO2 : Own w (w1.setCell ⟨gp, 0, none⟩ (.pointer (some ⟨gc, 0, none⟩))) [(w.heap.size, 27, m.cells), (w.heap.size + 1, 44, trC x xm), (w.heap.size + 1 + 1, 49, #[.int .i64 4, .int .i64 n, .slice none 0 0]), (w.heap.size + 1 + 1 + 1, 3, #[.int .i64 now]), (w.heap.size + 1 + 1 + 1 + 1, 44, zeroTr), (gc, 101, cabC m x (trAt xm A1 c1 A2 c2 A3 c3) now), (gp, 98, #[.pointer (some ⟨gc, 0, none⟩)])] := by
    have hlt := hO.b4.lt
    have h1 := (hO.grow hk).turn (b := gp) (W' := w1.setCell ⟨gp, 0, none⟩ (.pointer (some ⟨gc, 0, none⟩))) (Nat.le_trans hO.below.size hgp) (fun y hy => by have := (hO.blk y hy).2.lt; omega) (by simp [World.setCell]) (fun k _ hk => Below.heap_setCell w1 ⟨gp, 0, none⟩ _ k hk) ⟨rfl, rfl, rfl⟩
    have h2 := h1.add (hbc.far (p := ⟨gp, 0, none⟩) hne (.pointer (some ⟨gc, 0, none⟩))) (Nat.le_trans hO.below.size hgc) (fun y hy => by have := (hO.blk y hy).2.lt; omega)
    exact h2.add (hbp.set_ 0 _) (Nat.le_trans hO.below.size hgp) (fun y hy => by
     rcases List.mem_append.1 hy with hy | hy
     ·
      have := (hO.blk y hy).2.lt
      omega
     ·
      rw [List.mem_singleton] at hy
      subst hy
      exact hne)
   have ht2 : TrOwn (w1.setCell ⟨gp, 0, none⟩ (.pointer (some ⟨gc, 0, none⟩))) w.heap.size x (trAt xm A1 c1 A2 c2 A3 c3) := (TrOwn.away (w' := w1.setCell ⟨gp, 0, none⟩ (.pointer (some ⟨gc, 0, none⟩))) ht (b := gp) ⟨rfl, rfl, rfl, by simp [World.setCell], fun k _ hk => Below.heap_setCell w1 ⟨gp, 0, none⟩ _ k (fun e => hk (by rw [e]))⟩ (noRow_blk hbp (by decide))).mono hO.below.size
   simp only [e6]
   generalize w1.setCell ⟨gp, 0, none⟩ (.pointer (some ⟨gc, 0, none⟩)) = W2 at *
   clear hO hk hbc hbp ht hgc hgp hcp hK e5 e6
   obtain ⟨xn, hxn⟩ : ∃ xn, xn = trAt xm A1 c1 A2 c2 A3 c3 := ⟨_, rfl⟩
   rw [← hxn] at hO2 ht2
   have HXN := Lib.hid hxn
   clear hxn
   have hO := hO2
   clear hO2
   go_wp2_with (first
    |((with_reducible refine wpList_makeMap_own hO rfl rfl ?_); intro wR hOR hM hbR; obtain ⟨gm, hgm⟩ : ∃ g, g = W2.heap.size := ⟨_, rfl⟩; rw [← hgm] at hM ⊢; have hmB : w.heap.size ≤ gm := (by rw [hgm]; exact hO.below.size); have hmN : ∀ z ∈ ([(w.heap.size, 27, m.cells), (w.heap.size + 1, 44, trC x xm), (w.heap.size + 1 + 1, 49, #[.int .i64 4, .int .i64 n, .slice none 0 0]), (w.heap.size + 1 + 1 + 1, 3, #[.int .i64 now]), (w.heap.size + 1 + 1 + 1 + 1, 44, zeroTr), (gc, 101, cabC m x xn now), (gp, 98, #[.pointer (some ⟨gc, 0, none⟩)])] : List Bk), z.1 ≠ gm := (fun z hz => by have := (hO.blk z hz).2.lt; omega); replace ht2 := ht2.below hbR; replace hO := hOR; clear hOR hbR hgm; have hcp := hO.b6.cell)
    |((with_reducible refine wpList_insert_own hO hM hmB hmN rfl _ _ _ rfl rfl _ rfl _ rfl Tryz.underlying107 Tryz.underlying3 rfl ?_); intro wR hOR hMR hgR; replace ht2 := ht2.away hgR (noRow_map hM); clear hM; replace hM := hMR; replace hO := hOR; clear hOR hMR hgR; have hcc := hO.b2.cell; have hcn := hO.b3.cell; have hcp := hO.b6.cell)
    |((with_reducible refine wpList_lookup_own hM rfl _ _ rfl rfl _ rfl 4 _ Tryz.underlying107 Tryz.underlying3 rfl ?_))
    |((with_reducible refine own_loadg0 hO ?_ _ rfl rfl _ Tryz.underlying27 rfl (by kernel_rfl) ?_); (· first | rfl | (simp [Region.wanted, yielded]; done)))
    |((with_reducible refine own_loadg1 hO ?_ _ rfl rfl _ Tryz.underlying44 rfl (trC_info _ xm) ?_); (· first | rfl | (simp [Region.wanted, yielded]; done)))
    |(go_at_call 19; (with_reducible refine (hmx _ hO.below).mono ?_); rintro e w3 ⟨rfl, hb3⟩; clear hM; replace ht2 := ht2.below hb3; replace hO := hO.grow hb3; have hcc := hO.b2.cell; have hcn := hO.b3.cell; have hcp := hO.b6.cell)
    |((with_reducible refine own_row4 _ hO rfl _ _ rfl rfl rfl (by kernel_rfl) rfl (by kernel_rfl) ?_); intro wR hOR hszR hkR; replace hO := hOR; clear hOR))
   exact bodyPost_ret (results_ctt Tryz.results18 _ _ _ _ _ _ _ rfl rfl rfl hO.b4 Tryz.underlying44 rfl (by kernel_rfl)) rfl ⟨_, rfl, hO.below, fun _ => rfl, fun h => absurd h (by decide)⟩
  have f3 : decide (268435456 < now) = false := by simpa using h3
  rw [if_neg (by simp; omega)] at hE
  have hnow : clockP now = true := by simp [clockP]; omega
  rw [hE]
  clear hE h2 h3
  have hs4 := fun (W : World) (xn : TrM) (gc gp : Nat) (hB : Below w.heap.size w W) (hX : TrOwn W w.heap.size x xn) (b0 : Blk W w.heap.size 27 m.cells) (b1 : Blk W gc 101 (cabC m x xn now)) (b2 : Blk W gp 98 #[.pointer (some ⟨gc, 0, none⟩)]) (b3 : Blk W (w.heap.size + 1 + 1 + 1) 3 #[.int .i64 now]) => step4_k (n := n) (h.below hB) hX b0 b1 b2 b3 hnow
  have hma : (movedR t x n now).ma = x.ma ∧ (movedR t x n now).stops = x.stops := movedR_same t x n now
  generalize movedE t x n now = me at *
  generalize movedR t x n now = mr at *
  have HMA := Lib.hid hma
  clear hma
  by_cases hz : me = 0
  ·
   subst hz
   go_enter Tryz.func18, Tryz.ntmps18
   go_wp2_with fail
   generalize hge : (((((w.alloc (.cells m.cells 27)).alloc (.cells (trC x xm) 44)).alloc (.cells #[.int .i64 4, .int .i64 n, .slice none 0 0] 49)).alloc (.cells #[.int .i64 now] 3)).alloc (.cells #[.int .i64 0, .int .i64 0, .int .i64 0, .int .i64 0, .int .i64 0, .int .i64 0, .int .i64 0, .int .i64 0, .int .i64 0, .int .i64 0, .int .i64 0, .int .i64 0, .int .i64 0, .int .u32 0, .int .u32 0, .int .u32 0, .int .u32 0, .int .i64 0, .int .u32 0, .int .u32 0, .int .u32 0, .int .u32 0, .int .u32 0, .int .u32 0, .bool false, .int .u32 0, .int .u32 0, .int .u32 0, .int .i64 0, .int .i64 0, .int .i64 0, .bool false, .int .i64 0, .bool false, .int .i64 0, .int .i64 0, .bool false, .int .i64 0, .int .i64 0, .bool false, .int .i64 0, .bool false, .slice none 0 0, .slice none 0 0, .int .i64 0, .int .i64 0, .bool false, .slice none 0 0] 44)) = W0 at *
   clear hge hcl hcx hcc hcn
   apply wp_region_lexl
   case hFl =>
    intro u
    simp only [List.map, fill, Act.put, List.setIfInBounds_toArray, List.set_cons_zero, List.set_cons_succ, Nat.reduceAdd, Nat.zero_add]
    rfl
   case hm => kernel_rfl
   case hB => kernel_rfl
   case hA => kernel_rfl
   case hap => kernel_rfl
   refine LexL.is (c := .agg (m.cells)) ?_ ?_
   ·
    (
     intro u w' hk hd
     have hbk := (hO.b0).below hk (hO.b0).lt
     refine looked_want (by first | rfl | simp [Region.wanted, yielded]) ?_
     intro K hK
     exact wp_load_row 27 _ rfl _ rfl 27 _ (0, 0) _ hbk Tryz.underlying27 rfl (by kernel_rfl) (hK _ _ (Below.refl _ _) rfl))
   refine LexL.is (c := .agg (trC x xm)) ?_ ?_
   ·
    (
     intro u w' hk hd
     have hbk := (hO.b1).below hk (hO.b1).lt
     refine looked_want (by first | rfl | simp [Region.wanted, yielded]) ?_
     intro K hK
     exact wp_load_row 44 _ rfl _ rfl 44 _ (0, 0) _ hbk Tryz.underlying44 rfl (by kernel_rfl) (hK _ _ (Below.refl _ _) rfl))
   refine LexL.word (CopW W0.heap.size x xm) (grows_cop _ x xm) ?_ ?_
   ·
    intro u w' hk hd
    simp [Waited, Region.binds, Is] at hd
    refine looked_want (by first | rfl | simp [Region.wanted, yielded]) ?_
    intro K hK
    go_wp2_with (first | (go_at_call 34; (with_reducible refine (hcp _ (below_then hO.below hk)).mono ?_); rintro e w3 ⟨⟨A1, c1, A2, c2, A3, c3, rfl, hown⟩, hb3⟩))
    simp only [hd] at hK
    exact hK _ _ hb3 ⟨A1, c1, A2, c2, A3, c3, rfl, hown.mono hk.size⟩
   apply LexL.is
   ·
    (
     intro u w' hk hd
     simp [Waited, Region.binds, Is] at hd
     refine looked_want (by first | rfl | simp [Region.wanted, yielded, hd]) ?_
     intro K hK
     have hO2 := hO.grow hk; have hcn := hO2.b3.cell
     go_wp2_with (fail)
     try simp only [hd] at hK
     refine hK _ _ ?_ rfl
     first | exact Below.refl _ _ | exact hb3)
   refine LexL.word (BldW W0.heap.size m x xm now) (grows_bld _ m x xm now) ?_ ?_
   ·
    intro u w' hk hd
    simp [Waited, Region.binds, Is] at hd
    obtain ⟨e0, e2, e3⟩ := hd
    obtain ⟨A1, c1, A2, c2, A3, c3, e2, ht⟩ := e2
    refine looked_want (by first | rfl | simp [Region.wanted, yielded]) ?_
    intro K hK
    exact wp_build_is 101 _ rfl [(0, .agg m.cells), (1, .agg (trC x (trAt xm A1 c1 A2 c2 A3 c3))), (2, .int .i64 now)] (by simp [Act.eval, e0, e2, e3]) _ (built_cab m x _ now) (hK _ _ (Below.refl _ _) ⟨A1, c1, A2, c2, A3, c3, rfl, ht⟩)
   refine LexL.word (BoxW W0.heap.size m x xm now) (grows_box _ m x xm now) ?_ ?_
   ·
    intro u w' hk hd
    simp [Waited, Region.binds, Is] at hd
    obtain ⟨A1, c1, A2, c2, A3, c3, e4, ht⟩ := hd
    refine looked_want (by first | rfl | simp [Region.wanted, yielded]) ?_
    intro K hK
    go_wp2_with fail
    try simp only [e4] at hK
    exact hK _ _ ((Below.refl _ _).alloc (Nat.le_refl _) _) ⟨_, A1, c1, A2, c2, A3, c3, rfl, hk.size, Blk.new _ _ _, ht.below ((Below.refl _ _).alloc (Nat.le_refl _) _)⟩
   refine LexL.word (AlcW W0.heap.size) (grows_alc _) ?_ ?_
   ·
    intro u w' hk hd
    clear hd
    refine looked_want (by first | rfl | simp [Region.wanted, yielded]) ?_
    intro K hK
    go_wp2_with fail
    exact hK _ _ ((Below.refl _ _).alloc (Nat.le_refl _) _) ⟨_, _, rfl, hk.size, Blk.new _ _ _⟩
   apply LexL.last
   intro u w1 hk hd
   obtain ⟨gc, A1, c1, A2, c2, A3, c3, e5, hgc, hbc, ht⟩ := hd 5 _ rfl
   obtain ⟨gp, y, e6, hgp, hbp⟩ := hd 6 _ rfl
   clear hd
   refine ⟨by first | rfl | simp [Region.wanted, yielded], ?_⟩
   intro K hK
   refine wp_store_c1 98 (.tmp 11) (.tmp 21) rfl gp 0 (by rw [← e6]; rfl) (.pointer (some ⟨gc, 0, none⟩)) (by rw [← e5]; rfl) 98 _ hbp (by simp) (by kernel_rfl) rfl (hK _ _ ?_)
   have hne : gc ≠ gp := by
    rintro rfl
    unfold Blk at hbc hbp
    rw [hbc] at hbp
    simp at hbp
   have hO2 : Own w (w1.setCell ⟨gp, 0, none⟩ (.pointer (some ⟨gc, 0, none⟩))) [(w.heap.size, 27, m.cells), (w.heap.size + 1, 44, trC x xm), (w.heap.size + 1 + 1, 49, #[.int .i64 4, .int .i64 n, .slice none 0 0]), (w.heap.size + 1 + 1 + 1, 3, #[.int .i64 now]), (w.heap.size + 1 + 1 + 1 + 1, 44, zeroTr), (gc, 101, cabC m x (trAt xm A1 c1 A2 c2 A3 c3) now), (gp, 98, #[.pointer (some ⟨gc, 0, none⟩)])] := by
    have hlt := hO.b4.lt
    have h1 := (hO.grow hk).turn (b := gp) (W' := w1.setCell ⟨gp, 0, none⟩ (.pointer (some ⟨gc, 0, none⟩))) (Nat.le_trans hO.below.size hgp) (fun y hy => by have := (hO.blk y hy).2.lt; omega) (by simp [World.setCell]) (fun k _ hk => Below.heap_setCell w1 ⟨gp, 0, none⟩ _ k hk) ⟨rfl, rfl, rfl⟩
    have h2 := h1.add (hbc.far (p := ⟨gp, 0, none⟩) hne (.pointer (some ⟨gc, 0, none⟩))) (Nat.le_trans hO.below.size hgc) (fun y hy => by have := (hO.blk y hy).2.lt; omega)
    exact h2.add (hbp.set_ 0 _) (Nat.le_trans hO.below.size hgp) (fun y hy => by
     rcases List.mem_append.1 hy with hy | hy
     ·
      have := (hO.blk y hy).2.lt
      omega
     ·
      rw [List.mem_singleton] at hy
      subst hy
      exact hne)
   have ht2 : TrOwn (w1.setCell ⟨gp, 0, none⟩ (.pointer (some ⟨gc, 0, none⟩))) w.heap.size x (trAt xm A1 c1 A2 c2 A3 c3) := (TrOwn.away (w' := w1.setCell ⟨gp, 0, none⟩ (.pointer (some ⟨gc, 0, none⟩))) ht (b := gp) ⟨rfl, rfl, rfl, by simp [World.setCell], fun k _ hk => Below.heap_setCell w1 ⟨gp, 0, none⟩ _ k (fun e => hk (by rw [e]))⟩ (noRow_blk hbp (by decide))).mono hO.below.size
   simp only [e6]
   generalize w1.setCell ⟨gp, 0, none⟩ (.pointer (some ⟨gc, 0, none⟩)) = W2 at *
   clear hO hk hbc hbp ht hgc hgp hcp hK e5 e6
   obtain ⟨xn, hxn⟩ : ∃ xn, xn = trAt xm A1 c1 A2 c2 A3 c3 := ⟨_, rfl⟩
   rw [← hxn] at hO2 ht2
   have HXN := Lib.hid hxn
   clear hxn
   have hO := hO2
   clear hO2
   go_wp2_with (first
    |((with_reducible refine wpList_makeMap_own hO rfl rfl ?_); intro wR hOR hM hbR; obtain ⟨gm, hgm⟩ : ∃ g, g = W2.heap.size := ⟨_, rfl⟩; rw [← hgm] at hM ⊢; have hmB : w.heap.size ≤ gm := (by rw [hgm]; exact hO.below.size); have hmN : ∀ z ∈ ([(w.heap.size, 27, m.cells), (w.heap.size + 1, 44, trC x xm), (w.heap.size + 1 + 1, 49, #[.int .i64 4, .int .i64 n, .slice none 0 0]), (w.heap.size + 1 + 1 + 1, 3, #[.int .i64 now]), (w.heap.size + 1 + 1 + 1 + 1, 44, zeroTr), (gc, 101, cabC m x xn now), (gp, 98, #[.pointer (some ⟨gc, 0, none⟩)])] : List Bk), z.1 ≠ gm := (fun z hz => by have := (hO.blk z hz).2.lt; omega); replace ht2 := ht2.below hbR; replace hO := hOR; clear hOR hbR hgm; have hcp := hO.b6.cell)
    |((with_reducible refine wpList_insert_own hO hM hmB hmN rfl _ _ _ rfl rfl _ rfl _ rfl Tryz.underlying107 Tryz.underlying3 rfl ?_); intro wR hOR hMR hgR; replace ht2 := ht2.away hgR (noRow_map hM); clear hM; replace hM := hMR; replace hO := hOR; clear hOR hMR hgR; have hcc := hO.b2.cell; have hcn := hO.b3.cell; have hcp := hO.b6.cell)
    |((with_reducible refine wpList_lookup_own hM rfl _ _ rfl rfl _ rfl 4 _ Tryz.underlying107 Tryz.underlying3 rfl ?_))
    |((with_reducible refine own_loadg0 hO ?_ _ rfl rfl _ Tryz.underlying27 rfl (by kernel_rfl) ?_); (· first | rfl | (simp [Region.wanted, yielded]; done)))
    |((with_reducible refine own_loadg1 hO ?_ _ rfl rfl _ Tryz.underlying44 rfl (trC_info _ xm) ?_); (· first | rfl | (simp [Region.wanted, yielded]; done)))
    |(go_at_call 19; (with_reducible refine (hmx _ hO.below).mono ?_); rintro e w3 ⟨rfl, hb3⟩; clear hM; replace ht2 := ht2.below hb3; replace hO := hO.grow hb3; have hcc := hO.b2.cell; have hcn := hO.b3.cell; have hcp := hO.b6.cell)
    |(go_at_call 41; (with_reducible refine (hs4 _ xn gc gp hO.below ht2 hO.b0 hO.b5 hO.b6 hO.b3).mono ?_); rintro e w4 ⟨rfl, hbg, hg4⟩; replace ht2 := ht2.away hg4 (noRow_blk hO.b5 (by decide)); replace hO := Own.change (L1 := [_, _, _, _, _]) hO hg4 hbg; clear hbg hg4; have hcc := hO.b2.cell; have hcn := hO.b3.cell; have hcp := hO.b6.cell))
   have hgp4 : gp ≠ w.heap.size + 1 + 1 + 1 + 1 := blk_ne hO.b6 hO.b4 (by decide)
   have hgc4 : gc ≠ w.heap.size + 1 + 1 + 1 + 1 := blk_ne hO.b5 hO.b4 (by decide)
   have hout : w4.cell? ⟨gc, 53, none⟩ = some (.slice none 0 0) := (hO.b5.cell 53).trans (cabC_out m mr xn now)
   have hB4 : w.heap.size + 1 + 1 + 1 + 1 < w4.heap.size := hO.b4.lt
   have hbase := hO.below.size
   clear hcc hcn hcp
   apply wp_region_lexs [(w.heap.size + 1 + 1 + 1 + 1, none)]
   case hFl =>
    intro u
    simp only [List.map, fill, Act.put, List.setIfInBounds_toArray, List.set_cons_zero, List.set_cons_succ, Nat.reduceAdd, Nat.zero_add]
    rfl
   case hm => kernel_rfl
   case hB => kernel_rfl
   case hap => kernel_rfl
   apply LexS.is
   ·
    (
     intro u w' hk hd
     simp [Waited, Region.binds, Is] at hd
     refine lookedT_want (by first | rfl | simp [Region.wanted, yielded, hd]) ?_
     intro K hK
     have hcp := (hk.blk hO.b6 (by intro o h; simp at h; omega)).cell
     go_wp2_with (fail)
     try simp only [hd] at hK
     refine hK _ _ ?_ rfl
     first | exact Stp.refl _ _ | exact Stp.of_below hb3 _)
   apply LexS.is
   ·
    (
     intro u w' hk hd
     simp [Waited, Region.binds, Is] at hd
     refine lookedT_want (by first | rfl | simp [Region.wanted, yielded, hd]) ?_
     intro K hK
     skip
     go_wp2_with (fail)
     try simp only [hd] at hK
     refine hK _ _ ?_ rfl
     first | exact Stp.refl _ _ | exact Stp.of_below hb3 _)
   apply LexS.is
   ·
    (
     intro u w' hk hd
     simp [Waited, Region.binds, Is] at hd
     refine lookedT_want (by first | rfl | simp [Region.wanted, yielded, hd]) ?_
     intro K hK
     skip
     go_wp2_with (fail)
     try simp only [hd] at hK
     refine hK _ _ ?_ rfl
     first | exact Stp.refl _ _ | exact Stp.of_below hb3 _)
   refine LexS.is (c := .agg (trC mr xn)) ?_ ?_
   ·
    intro u w' hk hd
    simp [Waited, Region.binds, Is] at hd
    have hbk := hk.blk hO.b5 (by intro o h; simp at h; omega)
    refine lookedT_want (by first | rfl | simp [Region.wanted, yielded]) ?_
    intro K hK
    exact wp_load_mid 44 _ rfl gc 4 (by rw [← hd]; rfl) (trC mr xn).toList _ (cab_tr hbk) Tryz.underlying44 rfl (trC_info _ _) (hK _ _ (Stp.refl _ _) rfl)
   apply LexS.is
   ·
    (
     intro u w' hk hd
     simp [Waited, Region.binds, Is] at hd
     refine lookedT_want (by first | rfl | simp [Region.wanted, yielded, hd]) ?_
     intro K hK
     have hcp := (hk.blk hO.b6 (by intro o h; simp at h; omega)).cell
     go_wp2_with (fail)
     try simp only [hd] at hK
     refine hK _ _ ?_ rfl
     first | exact Stp.refl _ _ | exact Stp.of_below hb3 _)
   apply LexS.is
   ·
    (
     intro u w' hk hd
     simp [Waited, Region.binds, Is] at hd
     refine lookedT_want (by first | rfl | simp [Region.wanted, yielded, hd]) ?_
     intro K hK
     skip
     go_wp2_with (fail)
     try simp only [hd] at hK
     refine hK _ _ ?_ rfl
     first | exact Stp.refl _ _ | exact Stp.of_below hb3 _)
   apply LexS.is
   ·
    (
     intro u w' hk hd
     simp [Waited, Region.binds, Is] at hd
     refine lookedT_want (by first | rfl | simp [Region.wanted, yielded, hd]) ?_
     intro K hK
     skip
     go_wp2_with (fail)
     try simp only [hd] at hK
     refine hK _ _ ?_ rfl
     first | exact Stp.refl _ _ | exact Stp.of_below hb3 _)
   apply LexS.is
   ·
    (
     intro u w' hk hd
     simp [Waited, Region.binds, Is] at hd
     refine lookedT_want (by first | rfl | simp [Region.wanted, yielded, hd]) ?_
     intro K hK
     have hcy := (hk.blk hO.b5 (by intro o h; simp at h; omega)).cell 53; rw [cabC_out m mr xn now] at hcy
     go_wp2_with (fail)
     try simp only [hd] at hK
     refine hK _ _ ?_ rfl
     first | exact Stp.refl _ _ | exact Stp.of_below hb3 _)
   refine LexS.row (w.heap.size + 1 + 1 + 1 + 1) 44 _ (trC mr xn) (by simp) hO.b4 (by rfl) 44 _ _ rfl (by kernel_rfl) (trC_ones _ _) ?_ ?_
   ·
    (
     intro u w' hk hd
     simp [Waited, Region.binds, Is] at hd
     exact ⟨by first | rfl | simp [Region.wanted, yielded, hd], rfl, by simp [Act.eval, hd]⟩)
   apply LexS.is
   ·
    (
     intro u w' hk hd
     simp [Waited, Region.binds, Is] at hd
     refine lookedT_want (by first | rfl | simp [Region.wanted, yielded, hd]) ?_
     intro K hK
     skip
     go_wp2_with (fail)
     try simp only [hd] at hK
     refine hK _ _ ?_ rfl
     first | exact Stp.refl _ _ | exact Stp.of_below hb3 _)
   apply LexS.is
   ·
    (
     intro u w' hk hd
     simp [Waited, Region.binds, Is] at hd
     refine lookedT_want (by first | rfl | simp [Region.wanted, yielded, hd]) ?_
     intro K hK
     skip
     go_wp2_with (fail)
     try simp only [hd] at hK
     refine hK _ _ ?_ rfl
     first | exact Stp.refl _ _ | exact Stp.of_below hb3 _)
   refine LexS.nil ?_ ?_
   ·
    simp [Go.Proofs.YtkaggddmhjifjaaGreatDoor.W2.fit, Apart2]
   intro u w7 hk hd
   simp only [List.nil_append, List.cons_append] at hd
   have h8 : Blk w7 (w.heap.size + 1 + 1 + 1 + 1) 44 (trC mr xn) := hd 8 _ rfl
   have h9 := hd 9 _ rfl
   have h10 := hd 10 _ rfl
   simp only [Is] at h9 h10
   clear hd
   simp only [h9, h10]
   clear h9 h10
   have hgr : w4.grownBy w7 (some (w.heap.size + 1 + 1 + 1 + 1)) := ⟨hk.os, hk.tape, hk.output, hk.size, fun k h1 hne => hk.block k h1 (fun o h => by simp at h; exact hne (by rw [h.1]))⟩
   have ht7 := ht2.away hgr (noRow_blk hO.b4 (by decide))
   have hbw : Below w.heap.size w w7 := hO.below.trans (hk.below hO.below.size (by intro k o h; simp at h; omega))
   clear hk hgr hO ht2
   go_wp2_with fail
   exact bodyPost_ret (results_ctt Tryz.results18 _ _ _ _ _ _ _ rfl rfl rfl h8 Tryz.underlying44 rfl (trC_info _ _)) rfl ⟨_, rfl, hbw, fun h => absurd rfl h, fun _ => ⟨xn, rfl, (ht7.moved HMA.out).is⟩⟩
  ·
   have f4 : (me != 0) = true := by simpa using hz
   go_enter Tryz.func18, Tryz.ntmps18
   go_wp2_with fail
   generalize hge : (((((w.alloc (.cells m.cells 27)).alloc (.cells (trC x xm) 44)).alloc (.cells #[.int .i64 4, .int .i64 n, .slice none 0 0] 49)).alloc (.cells #[.int .i64 now] 3)).alloc (.cells #[.int .i64 0, .int .i64 0, .int .i64 0, .int .i64 0, .int .i64 0, .int .i64 0, .int .i64 0, .int .i64 0, .int .i64 0, .int .i64 0, .int .i64 0, .int .i64 0, .int .i64 0, .int .u32 0, .int .u32 0, .int .u32 0, .int .u32 0, .int .i64 0, .int .u32 0, .int .u32 0, .int .u32 0, .int .u32 0, .int .u32 0, .int .u32 0, .bool false, .int .u32 0, .int .u32 0, .int .u32 0, .int .i64 0, .int .i64 0, .int .i64 0, .bool false, .int .i64 0, .bool false, .int .i64 0, .int .i64 0, .bool false, .int .i64 0, .int .i64 0, .bool false, .int .i64 0, .bool false, .slice none 0 0, .slice none 0 0, .int .i64 0, .int .i64 0, .bool false, .slice none 0 0] 44)) = W0 at *
   clear hge hcl hcx hcc hcn
   apply wp_region_lexl
   case hFl =>
    intro u
    simp only [List.map, fill, Act.put, List.setIfInBounds_toArray, List.set_cons_zero, List.set_cons_succ, Nat.reduceAdd, Nat.zero_add]
    rfl
   case hm => kernel_rfl
   case hB => kernel_rfl
   case hA => kernel_rfl
   case hap => kernel_rfl
   refine LexL.is (c := .agg (m.cells)) ?_ ?_
   ·
    (
     intro u w' hk hd
     have hbk := (hO.b0).below hk (hO.b0).lt
     refine looked_want (by first | rfl | simp [Region.wanted, yielded]) ?_
     intro K hK
     exact wp_load_row 27 _ rfl _ rfl 27 _ (0, 0) _ hbk Tryz.underlying27 rfl (by kernel_rfl) (hK _ _ (Below.refl _ _) rfl))
   refine LexL.is (c := .agg (trC x xm)) ?_ ?_
   ·
    (
     intro u w' hk hd
     have hbk := (hO.b1).below hk (hO.b1).lt
     refine looked_want (by first | rfl | simp [Region.wanted, yielded]) ?_
     intro K hK
     exact wp_load_row 44 _ rfl _ rfl 44 _ (0, 0) _ hbk Tryz.underlying44 rfl (by kernel_rfl) (hK _ _ (Below.refl _ _) rfl))
   refine LexL.word (CopW W0.heap.size x xm) (grows_cop _ x xm) ?_ ?_
   ·
    intro u w' hk hd
    simp [Waited, Region.binds, Is] at hd
    refine looked_want (by first | rfl | simp [Region.wanted, yielded]) ?_
    intro K hK
    go_wp2_with (first | (go_at_call 34; (with_reducible refine (hcp _ (below_then hO.below hk)).mono ?_); rintro e w3 ⟨⟨A1, c1, A2, c2, A3, c3, rfl, hown⟩, hb3⟩))
    simp only [hd] at hK
    exact hK _ _ hb3 ⟨A1, c1, A2, c2, A3, c3, rfl, hown.mono hk.size⟩
   apply LexL.is
   ·
    (
     intro u w' hk hd
     simp [Waited, Region.binds, Is] at hd
     refine looked_want (by first | rfl | simp [Region.wanted, yielded, hd]) ?_
     intro K hK
     have hO2 := hO.grow hk; have hcn := hO2.b3.cell
     go_wp2_with (fail)
     try simp only [hd] at hK
     refine hK _ _ ?_ rfl
     first | exact Below.refl _ _ | exact hb3)
   refine LexL.word (BldW W0.heap.size m x xm now) (grows_bld _ m x xm now) ?_ ?_
   ·
    intro u w' hk hd
    simp [Waited, Region.binds, Is] at hd
    obtain ⟨e0, e2, e3⟩ := hd
    obtain ⟨A1, c1, A2, c2, A3, c3, e2, ht⟩ := e2
    refine looked_want (by first | rfl | simp [Region.wanted, yielded]) ?_
    intro K hK
    exact wp_build_is 101 _ rfl [(0, .agg m.cells), (1, .agg (trC x (trAt xm A1 c1 A2 c2 A3 c3))), (2, .int .i64 now)] (by simp [Act.eval, e0, e2, e3]) _ (built_cab m x _ now) (hK _ _ (Below.refl _ _) ⟨A1, c1, A2, c2, A3, c3, rfl, ht⟩)
   refine LexL.word (BoxW W0.heap.size m x xm now) (grows_box _ m x xm now) ?_ ?_
   ·
    intro u w' hk hd
    simp [Waited, Region.binds, Is] at hd
    obtain ⟨A1, c1, A2, c2, A3, c3, e4, ht⟩ := hd
    refine looked_want (by first | rfl | simp [Region.wanted, yielded]) ?_
    intro K hK
    go_wp2_with fail
    try simp only [e4] at hK
    exact hK _ _ ((Below.refl _ _).alloc (Nat.le_refl _) _) ⟨_, A1, c1, A2, c2, A3, c3, rfl, hk.size, Blk.new _ _ _, ht.below ((Below.refl _ _).alloc (Nat.le_refl _) _)⟩
   refine LexL.word (AlcW W0.heap.size) (grows_alc _) ?_ ?_
   ·
    intro u w' hk hd
    clear hd
    refine looked_want (by first | rfl | simp [Region.wanted, yielded]) ?_
    intro K hK
    go_wp2_with fail
    exact hK _ _ ((Below.refl _ _).alloc (Nat.le_refl _) _) ⟨_, _, rfl, hk.size, Blk.new _ _ _⟩
   apply LexL.last
   intro u w1 hk hd
   obtain ⟨gc, A1, c1, A2, c2, A3, c3, e5, hgc, hbc, ht⟩ := hd 5 _ rfl
   obtain ⟨gp, y, e6, hgp, hbp⟩ := hd 6 _ rfl
   clear hd
   refine ⟨by first | rfl | simp [Region.wanted, yielded], ?_⟩
   intro K hK
   refine wp_store_c1 98 (.tmp 11) (.tmp 21) rfl gp 0 (by rw [← e6]; rfl) (.pointer (some ⟨gc, 0, none⟩)) (by rw [← e5]; rfl) 98 _ hbp (by simp) (by kernel_rfl) rfl (hK _ _ ?_)
   have hne : gc ≠ gp := by
    rintro rfl
    unfold Blk at hbc hbp
    rw [hbc] at hbp
    simp at hbp
   have hO2 : Own w (w1.setCell ⟨gp, 0, none⟩ (.pointer (some ⟨gc, 0, none⟩))) [(w.heap.size, 27, m.cells), (w.heap.size + 1, 44, trC x xm), (w.heap.size + 1 + 1, 49, #[.int .i64 4, .int .i64 n, .slice none 0 0]), (w.heap.size + 1 + 1 + 1, 3, #[.int .i64 now]), (w.heap.size + 1 + 1 + 1 + 1, 44, zeroTr), (gc, 101, cabC m x (trAt xm A1 c1 A2 c2 A3 c3) now), (gp, 98, #[.pointer (some ⟨gc, 0, none⟩)])] := by
    have hlt := hO.b4.lt
    have h1 := (hO.grow hk).turn (b := gp) (W' := w1.setCell ⟨gp, 0, none⟩ (.pointer (some ⟨gc, 0, none⟩))) (Nat.le_trans hO.below.size hgp) (fun y hy => by have := (hO.blk y hy).2.lt; omega) (by simp [World.setCell]) (fun k _ hk => Below.heap_setCell w1 ⟨gp, 0, none⟩ _ k hk) ⟨rfl, rfl, rfl⟩
    have h2 := h1.add (hbc.far (p := ⟨gp, 0, none⟩) hne (.pointer (some ⟨gc, 0, none⟩))) (Nat.le_trans hO.below.size hgc) (fun y hy => by have := (hO.blk y hy).2.lt; omega)
    exact h2.add (hbp.set_ 0 _) (Nat.le_trans hO.below.size hgp) (fun y hy => by
     rcases List.mem_append.1 hy with hy | hy
     ·
      have := (hO.blk y hy).2.lt
      omega
     ·
      rw [List.mem_singleton] at hy
      subst hy
      exact hne)
   have ht2 : TrOwn (w1.setCell ⟨gp, 0, none⟩ (.pointer (some ⟨gc, 0, none⟩))) w.heap.size x (trAt xm A1 c1 A2 c2 A3 c3) := (TrOwn.away (w' := w1.setCell ⟨gp, 0, none⟩ (.pointer (some ⟨gc, 0, none⟩))) ht (b := gp) ⟨rfl, rfl, rfl, by simp [World.setCell], fun k _ hk => Below.heap_setCell w1 ⟨gp, 0, none⟩ _ k (fun e => hk (by rw [e]))⟩ (noRow_blk hbp (by decide))).mono hO.below.size
   simp only [e6]
   generalize w1.setCell ⟨gp, 0, none⟩ (.pointer (some ⟨gc, 0, none⟩)) = W2 at *
   clear hO hk hbc hbp ht hgc hgp hcp hK e5 e6
   obtain ⟨xn, hxn⟩ : ∃ xn, xn = trAt xm A1 c1 A2 c2 A3 c3 := ⟨_, rfl⟩
   rw [← hxn] at hO2 ht2
   have HXN := Lib.hid hxn
   clear hxn
   have hO := hO2
   clear hO2
   go_wp2_with (first
    |((with_reducible refine wpList_makeMap_own hO rfl rfl ?_); intro wR hOR hM hbR; obtain ⟨gm, hgm⟩ : ∃ g, g = W2.heap.size := ⟨_, rfl⟩; rw [← hgm] at hM ⊢; have hmB : w.heap.size ≤ gm := (by rw [hgm]; exact hO.below.size); have hmN : ∀ z ∈ ([(w.heap.size, 27, m.cells), (w.heap.size + 1, 44, trC x xm), (w.heap.size + 1 + 1, 49, #[.int .i64 4, .int .i64 n, .slice none 0 0]), (w.heap.size + 1 + 1 + 1, 3, #[.int .i64 now]), (w.heap.size + 1 + 1 + 1 + 1, 44, zeroTr), (gc, 101, cabC m x xn now), (gp, 98, #[.pointer (some ⟨gc, 0, none⟩)])] : List Bk), z.1 ≠ gm := (fun z hz => by have := (hO.blk z hz).2.lt; omega); replace ht2 := ht2.below hbR; replace hO := hOR; clear hOR hbR hgm; have hcp := hO.b6.cell)
    |((with_reducible refine wpList_insert_own hO hM hmB hmN rfl _ _ _ rfl rfl _ rfl _ rfl Tryz.underlying107 Tryz.underlying3 rfl ?_); intro wR hOR hMR hgR; replace ht2 := ht2.away hgR (noRow_map hM); clear hM; replace hM := hMR; replace hO := hOR; clear hOR hMR hgR; have hcc := hO.b2.cell; have hcn := hO.b3.cell; have hcp := hO.b6.cell)
    |((with_reducible refine wpList_lookup_own hM rfl _ _ rfl rfl _ rfl 4 _ Tryz.underlying107 Tryz.underlying3 rfl ?_))
    |((with_reducible refine own_loadg0 hO ?_ _ rfl rfl _ Tryz.underlying27 rfl (by kernel_rfl) ?_); (· first | rfl | (simp [Region.wanted, yielded]; done)))
    |((with_reducible refine own_loadg1 hO ?_ _ rfl rfl _ Tryz.underlying44 rfl (trC_info _ xm) ?_); (· first | rfl | (simp [Region.wanted, yielded]; done)))
    |(go_at_call 19; (with_reducible refine (hmx _ hO.below).mono ?_); rintro e w3 ⟨rfl, hb3⟩; clear hM; replace ht2 := ht2.below hb3; replace hO := hO.grow hb3; have hcc := hO.b2.cell; have hcn := hO.b3.cell; have hcp := hO.b6.cell)
    |(go_at_call 41; (with_reducible refine (hs4 _ xn gc gp hO.below ht2 hO.b0 hO.b5 hO.b6 hO.b3).mono ?_); rintro e w4 ⟨rfl, hbg, hg4⟩; replace ht2 := ht2.away hg4 (noRow_blk hO.b5 (by decide)); replace hO := Own.change (L1 := [_, _, _, _, _]) hO hg4 hbg; clear hbg hg4; have hcc := hO.b2.cell; have hcn := hO.b3.cell; have hcp := hO.b6.cell)
    |((with_reducible refine own_row4 _ hO rfl _ _ rfl rfl rfl (by kernel_rfl) rfl (by kernel_rfl) ?_); intro wR hOR hszR hkR; replace hO := hOR; clear hOR))
   exact bodyPost_ret (results_ctt Tryz.results18 _ _ _ _ _ _ _ rfl rfl rfl hO.b4 Tryz.underlying44 rfl (by kernel_rfl)) rfl ⟨_, rfl, hO.below, fun _ => rfl, fun h => absurd h hz⟩
end Go.Proofs.YtkaggddmhjifjaaGreatDoor
