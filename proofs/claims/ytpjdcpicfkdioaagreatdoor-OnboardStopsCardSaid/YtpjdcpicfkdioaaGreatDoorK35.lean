/- Texts in one: Holds StepS. -/
import Derived.Test.YtpjdcpicfkdioaaGreatDoorK34
import Derived.Test.YtpjdcpicfkdioaaGreatDoorK27
import Derived.Test.YtpjdcpicfkdioaaGreatDoorK33
set_option linter.unusedSimpArgs false
set_option linter.unusedVariables false
/- The chapter's train, as it is made. -/
namespace Go.Proofs.YtpjdcpicfkdioaaGreatDoor
open Go.RowKit Go.Shelf

def heldM (v : MaM) : TrM := ⟨q19, 1, v, none, 0, 0⟩
theorem held_sz (v : MaM) : (putAt (trC new19 newM) 40 #[.int .i64 7, .bool false, .slice v.A1 v.n1 v.c1, .slice v.A2 v.n2 v.c2, .int .i64 0].toList).size = 48 := rfl
theorem held_cells (v : MaM) : ((putAt (trC new19 newM) 40 (maC ma16 v).toList).setIfInBounds 45 (.int .i64 3)).setIfInBounds 46 (.bool true) = trC train19 (heldM v) := rfl
set_option maxRecDepth 8000 in
set_option maxHeartbeats 8000000 in
theorem holds_c (w : World) : Calls Tryz.prog 10 #[] w fun e w' => ∃ v, e = .returned (.tuple #[.agg (trC train19 (heldM v)), .int .i64 0]) ∧ TrIs w' train19 (heldM v) ∧ Below w.heap.size w w' := by
  have hO : Own w _ [_] := (Own.nil w).alloc 44 #[.int .i64 0, .int .i64 0, .int .i64 0, .int .i64 0, .int .i64 0, .int .i64 0, .int .i64 0, .int .i64 0, .int .i64 0, .int .i64 0, .int .i64 0, .int .i64 0, .int .i64 0, .int .u32 0, .int .u32 0, .int .u32 0, .int .u32 0, .int .i64 0, .int .u32 0, .int .u32 0, .int .u32 0, .int .u32 0, .int .u32 0, .int .u32 0, .bool false, .int .u32 0, .int .u32 0, .int .u32 0, .int .i64 0, .int .i64 0, .int .i64 0, .bool false, .int .i64 0, .bool false, .int .i64 0, .int .i64 0, .bool false, .int .i64 0, .int .i64 0, .bool false, .int .i64 0, .bool false, .slice none 0 0, .slice none 0 0, .int .i64 0, .int .i64 0, .bool false, .slice none 0 0] _ rfl
  have hli := fun W => line_k W
  unfold TpM.cells at hli
  go_enter Tryz.func10, Tryz.ntmps10
  go_wp2_with (first
    | (go_at_call 11; (with_reducible refine (hli _).mono ?_); rintro e w1 ⟨m, rfl, hT, hb1⟩; replace hO := hO.grow hb1; replace hO := hO.alloc 27 #[.slice m.A1 m.n1 m.c1, .slice m.A2 m.n2 m.c2, .slice m.A3 m.n3 m.c3, .slice m.A4 m.n4 m.c4] w1.heap.size rfl; simp only [List.cons_append, List.nil_append] at hO; replace hT := hT.below (((Below.refl _ _).alloc (Nat.le_refl _) (.cells #[.slice m.A1 m.n1 m.c1, .slice m.A2 m.n2 m.c2, .slice m.A3 m.n3 m.c3, .slice m.A4 m.n4 m.c4] 27)))))
  generalize hge : (w1.alloc (.cells #[.slice m.A1 m.n1 m.c1, .slice m.A2 m.n2 m.c2, .slice m.A3 m.n3 m.c3, .slice m.A4 m.n4 m.c4] 27)) = W0 at *
  clear hge
  have hnw := fun W (hW : Below W0.heap.size W0 W) => new_c (hT.below hW)
  unfold TpM.cells at *
  apply wp_region_lextu (Below (W0).heap.size) (fun W => below_drewN (Below.refl _ _) 1) (fun _ _ _ h1 h2 => h1.trans h2) (WaysB (W0).heap.size 8) (fun _ _ _ h => h.1) (fun _ _ => waysB_same _ _ _ _) (fun _ _ => True) (fun _ => trivial) (fun _ _ _ _ _ _ _ => trivial)
  case hFl =>
    intro u
    simp only [List.map, fill, Act.put, List.setIfInBounds_toArray, List.set_cons_zero, List.set_cons_succ, Nat.reduceAdd, Nat.zero_add]
    with_reducible rfl
  case hm => kernel_rfl
  case hB => kernel_rfl
  case hA => kernel_rfl
  case hap => kernel_rfl
  repeat (first
    | (apply LexTU.is
       · (intro u w' hk hpre hd
          simp [WaitedU, Region.binds, Own1, Is] at hd
          refine lookedT_want ?_ ?_
          · first
            | rfl
            | (simp [Region.wanted, yielded, hd]; done)
          intro K hK
          have hO2 := hO.grow hk; have hcy := hO2.b1.cell
          go_wp2_with ((first | (go_at_call 30; (with_reducible refine (rules19_k _).mono ?_); rintro e w3 ⟨rfl, hb3⟩) | (go_at_call 29; (with_reducible refine (hnw _ hk).mono ?_); rintro e w3 ⟨rfl, hb3⟩)))
          try simp only [hd] at hK
          refine hK _ _ ?_ rfl
          first | exact waysB_same _ _ _ _ | exact waysB_below hk.size hb3 (by decide)))
    | (refine LexTU.one (BoxB (W0).heap.size 44 (#[.int .i64 0, .int .i64 0, .int .i64 0, .int .i64 0, .int .i64 0, .int .i64 0, .int .i64 0, .int .i64 0, .int .i64 0, .int .i64 0, .int .i64 0, .int .i64 0, .int .i64 0, .int .u32 0, .int .u32 0, .int .u32 0, .int .u32 0, .int .i64 0, .int .u32 0, .int .u32 0, .int .u32 0, .int .u32 0, .int .u32 0, .int .u32 0, .bool false, .int .u32 0, .int .u32 0, .int .u32 0, .int .i64 0, .int .i64 0, .int .i64 0, .bool false, .int .i64 0, .bool false, .int .i64 0, .int .i64 0, .bool false, .int .i64 0, .int .i64 0, .bool false, .int .i64 0, .bool false, .slice none 0 0, .slice none 0 0, .int .i64 0, .int .i64 0, .bool false, .slice none 0 0] : Array Value).size) ?_ ?_
       · (intro u w' hk hpre hd
          clear hd
          refine lookedT_want ?_ ?_
          · first
            | rfl
            | (simp [Region.wanted, yielded]; done)
          intro K hK
          go_wp2_with fail
          exact hK _ _ (waysB_below hk.size ((Below.refl _ _).alloc (Nat.le_refl _) _) (by decide)) ⟨w'.heap.size, _, rfl, hk.size, Blk.new w' 44 (#[.int .i64 0, .int .i64 0, .int .i64 0, .int .i64 0, .int .i64 0, .int .i64 0, .int .i64 0, .int .i64 0, .int .i64 0, .int .i64 0, .int .i64 0, .int .i64 0, .int .i64 0, .int .u32 0, .int .u32 0, .int .u32 0, .int .u32 0, .int .i64 0, .int .u32 0, .int .u32 0, .int .u32 0, .int .u32 0, .int .u32 0, .int .u32 0, .bool false, .int .u32 0, .int .u32 0, .int .u32 0, .int .i64 0, .int .i64 0, .int .i64 0, .bool false, .int .i64 0, .bool false, .int .i64 0, .int .i64 0, .bool false, .int .i64 0, .int .i64 0, .bool false, .int .i64 0, .bool false, .slice none 0 0, .slice none 0 0, .int .i64 0, .int .i64 0, .bool false, .slice none 0 0] : Array Value), rfl⟩))
    | (refine LexTU.word (FullB (W0).heap.size 7 44 (trC new19 newM)) ?_ ?_
       · (intro u w' hk hpre hd
          simp [WaitedU, Region.binds, Own1, Is] at hd
          obtain ⟨⟨g, cs, hpg, hg, hbk, hsz⟩, hx⟩ := hd
          refine lookedU_want ?_ ?_
          · first
            | rfl
            | (simp [Region.wanted, yielded]; done)
          intro K hK
          have hfar : ∀ k, k ≠ g → (w'.setRow g (trC new19 newM)).heap[k]? = w'.heap[k]? := fun k hk => setRow_other w' g k _ hk
          exact wp_store_row 44 _ _ rfl g (trC new19 newM) (by first | exact hpg | (rw [← hpg]; rfl)) (by first | exact hx | exact hx.1 | (rw [← hx.1]; rfl) | (rw [← hx]; rfl)) 44 cs hbk (by kernel_rfl) hsz (by first | (simp [Value.oneCell']; done) | exact trC_ones _ _) (hK undef _
            ⟨below_row (Below.refl _ _) hg _, fun h => absurd rfl h, fun _ => .inr ⟨g, _, cs, (trC new19 newM), hbk, hbk.row _, hsz.symm, by simp, hfar⟩⟩
            ⟨g, by rw [upd_other u undef (by decide)]; exact hpg, hg, hbk.row _⟩))))
  refine LexTU.last (stB_last ?_) ?_
  · simp only [List.nil_append, List.cons_append]
    repeat (refine ⟨?_, ?_⟩; · first | exact stableB_is _ | exact stableB_box | exact stableB_full (fun i hf e => hf _ rfl ⟨7, .data⟩ (by simp) rfl e.symm))
    exact trivial
  intro u w2 hk2 _ hd
  simp only [List.nil_append, List.cons_append] at hd
  refine ⟨rfl, ?_⟩
  intro K hK
  obtain ⟨gx, hu7, hgx, hbk⟩ := hd 8 _ rfl
  have hu6 := hd 6 _ rfl
  simp only [Own1, Is] at hu6
  clear hd
  have hO3 := (hO.grow hk2).add hbk (Nat.le_trans hO.below.size hgx) (fun x hx => by have := (hO.blk x hx).2.lt; omega)
  simp only [List.cons_append, List.nil_append] at hO3
  have hT2 := hT.below hk2
  simp only [hu6, hu7]
  clear hu6 hu7 hk2
  have hO4 := hO3.alloc 89 #[.int .i64 1, .int .i64 5, .int .i64 1] w2.heap.size rfl
  simp only [List.cons_append, List.nil_append] at hO4
  have hT3 := hT2.below ((Below.refl _ _).alloc (Nat.le_refl _) (.cells #[.int .i64 1, .int .i64 5, .int .i64 1] 89))
  have hbd := build_c hT3 hO4.b3
  simp only [TpM.cells, maC, ma16] at hbd
  have hct := hO3.b1.cell
  go_wp2_with (first
    | (go_at_call 31; (with_reducible refine hbd.mono ?_); rintro e w5 ⟨v, rfl, hP, hS, hn1, hn2, hb5⟩; have HN := Lib.hid (And.intro hn1 hn2); clear hn1 hn2; replace hO4 := hO4.grow hb5; have hO5 := hO4.alloc 42 #[.int .i64 7, .bool false, .slice v.A1 v.n1 v.c1, .slice v.A2 v.n2 v.c2, .int .i64 0] w5.heap.size rfl; simp only [List.cons_append, List.nil_append] at hO5; replace hP := hP.alloc (.cells #[.int .i64 7, .bool false, .slice v.A1 v.n1 v.c1, .slice v.A2 v.n2 v.c2, .int .i64 0] 42); replace hS := hS.alloc (.cells #[.int .i64 7, .bool false, .slice v.A1 v.n1 v.c1, .slice v.A2 v.n2 v.c2, .int .i64 0] 42); have hcm := hO5.b4.cell)
    | ((with_reducible refine own_mid2 40 #[.int .i64 7, .bool false, .slice v.A1 v.n1 v.c1, .slice v.A2 v.n2 v.c2, .int .i64 0] hO5 rfl _ _ _ rfl rfl rfl (by kernel_rfl) (by simp [trC_size]) (by kernel_rfl) ?_); intro wR hOR hszR hkR; replace hP := hP.keep hkR (blk_not hO5.b2 (by decide)); replace hS := hS.keep hkR (blk_not hO5.b2 (by decide)))
    | ((with_reducible refine own_cell2 45 (.int .i64 3) hOR rfl _ _ _ rfl rfl rfl (by kernel_rfl) (by rw [held_sz]; decide) rfl ?_); intro wS hOS hszS hkS; replace hP := hP.keep hkS (blk_not hOR.b2 (by decide)); replace hS := hS.keep hkS (blk_not hOR.b2 (by decide)))
    | ((with_reducible refine own_cell2 46 (.bool true) hOS rfl _ _ _ rfl rfl rfl (by kernel_rfl) (by rw [Array.size_setIfInBounds, held_sz]; decide) rfl ?_); intro wU hOU hszU hkU; replace hP := hP.keep hkU (blk_not hOS.b2 (by decide)); replace hS := hS.keep hkU (blk_not hOS.b2 (by decide)); have hOF : Own w wU [_, _, (gx, 44, trC train19 (heldM v)), _, _] := hOU)
    | ((with_reducible refine own_loadg2 hOF ?_ _ rfl rfl _ Tryz.underlying44 rfl (trC_info _ _) ?_); (· first | rfl | (simp [Region.wanted, yielded]; done)))
    | ((with_reducible refine own_row0 (trC train19 (heldM v)) hOF rfl _ _ rfl rfl rfl (trC_info _ _) rfl (trC_ones _ _) ?_); intro wV hOV hszV hkV; replace hP := hP.keep hkV (blk_not hOF.b0 (by decide)); replace hS := hS.keep hkV (blk_not hOF.b0 (by decide))))
  obtain ⟨hn1, hn2⟩ := HN.out
  have hTr : TrIs wV train19 (heldM v) := ⟨⟨hP.rows, hS.rows, hn1.symm, hn2.symm, by show v.n1 ≤ 100; omega, by show v.n2 ≤ 100; omega, by show v.n1 ≤ v.c1; rw [hn1]; exact hP.cap.1, by show v.n2 ≤ v.c2; rw [hn2]; exact hS.cap.1⟩, RowsAt.nil _ _, rfl, by simp [heldM], by simp [heldM]⟩
  exact bodyPost_ret (results_ct1 Tryz.results10 _ _ _ _ _ _ rfl rfl hOV.b0 Tryz.underlying44 rfl (trC_info _ _)) rfl ⟨v, rfl, hTr, hOV.below⟩
end Go.Proofs.YtpjdcpicfkdioaaGreatDoor
/- onboard.Step for CabStart, at the chapter's example. -/
namespace Go.Proofs.YtpjdcpicfkdioaaGreatDoor
open Go.RowKit Go.Shelf

theorem cabX_53 (m : TpM) (v : MaM) (A3 : Option Addr) (n3 c3 : Nat) (now st a nx : Int) (o : Value) : (cabX m v A3 n3 c3 now st a nx o)[53]? = some o := rfl
set_option maxRecDepth 8000 in
set_option maxHeartbeats 16000000 in
theorem stepS_c {w : World} {m : TpM} {v : MaM} (h : TpIs w line16 m) (hx : TrIs w train19 (heldM v)) : Calls Tryz.prog 6 #[.agg m.cells, .agg (trC train19 (heldM v)), .agg #[.int .i64 0, .int .i64 0, .slice none 0 0], .int .i64 32] w fun e w' => ∃ M A c, e = .returned (.tuple #[.agg (trC train19 M), .slice A 1 c, .int .i64 0]) ∧ Below w.heap.size w w' := by
  obtain ⟨x, hxx⟩ : ∃ x, x = train19 := ⟨_, rfl⟩
  obtain ⟨xm, hxm⟩ : ∃ xm, xm = heldM v := ⟨_, rfl⟩
  obtain ⟨now, hnow⟩ : ∃ n : Int, n = 32 := ⟨_, rfl⟩
  have hmb : mayX line16 x = true := by rw [hxx]; decide +kernel
  have hq : xm.q = q19 ∧ xm.nx = 1 := by rw [hxm]; exact ⟨rfl, rfl⟩
  have hcX : ∀ xn : TrM, xn.q = q19 → xn.nx = 1 → cabC m x xn now = cabX m xn.v xn.A3 xn.n3 xn.c3 now 0 0 1 (.slice none 0 0) := by rw [hxx]; exact fun xn h1 h2 => cabX_0 m xn now h1 h2
  have htX : ∀ (M : TrM), trC train19 M = trC x M := by rw [hxx]; exact fun _ => rfl
  have f2 : decide (now < 0) = false := by rw [hnow]; rfl
  have f3 : decide (268435456 < now) = false := by rw [hnow]; rfl
  rw [← hxx, ← hxm, ← hnow]
  rw [← hxx, ← hxm] at hx
  clear hxx hxm hnow
  have hO : Own w _ [_, _, _, _, _] := Own.start5 w 27 44 49 3 44 m.cells (trC x xm) #[.int .i64 0, .int .i64 0, .slice none 0 0] #[.int .i64 now] zeroTr
  have hcp := fun W (hW : Below w.heap.size w W) => copied_k x xm W (hx.below hW)
  have hmx := fun W (hW : Below w.heap.size w W) => mayX_m (h.below hW) x xm (hx.below hW)
  unfold zeroTr at hO
  have hcl := hO.b0.cell
  have hcx := hO.b1.cell
  have hcc := hO.b2.cell
  have hcn := hO.b3.cell
  rw [hmb] at hmx
  clear hmb
  go_enter Tryz.func6, Tryz.ntmps6
  go_wp2_with fail
  generalize hge : (((((w.alloc (.cells m.cells 27)).alloc (.cells (trC x xm) 44)).alloc (.cells #[.int .i64 0, .int .i64 0, .slice none 0 0] 49)).alloc (.cells #[.int .i64 now] 3)).alloc (.cells #[.int .i64 0, .int .i64 0, .int .i64 0, .int .i64 0, .int .i64 0, .int .i64 0, .int .i64 0, .int .i64 0, .int .i64 0, .int .i64 0, .int .i64 0, .int .i64 0, .int .i64 0, .int .u32 0, .int .u32 0, .int .u32 0, .int .u32 0, .int .i64 0, .int .u32 0, .int .u32 0, .int .u32 0, .int .u32 0, .int .u32 0, .int .u32 0, .bool false, .int .u32 0, .int .u32 0, .int .u32 0, .int .i64 0, .int .i64 0, .int .i64 0, .bool false, .int .i64 0, .bool false, .int .i64 0, .int .i64 0, .bool false, .int .i64 0, .int .i64 0, .bool false, .int .i64 0, .bool false, .slice none 0 0, .slice none 0 0, .int .i64 0, .int .i64 0, .bool false, .slice none 0 0] 44)) = W0 at *
  clear hge hcl hcx hcc hcn
  apply wp_region_lexl
  case hFl =>
    intro u
    simp only [List.map, fill, Act.put, List.setIfInBounds_toArray, List.set_cons_zero, List.set_cons_succ, Nat.reduceAdd, Nat.zero_add]
    rfl
  case hm => kernel_rfl
  case hB => kernel_rfl
  case hA => kernel_rfl
  case hap => kernel_rfl
  refine LexL.is (c := .agg (m.cells)) ?_ ?_
  · (intro u w' hk hd
     have hbk := (hO.b0).below hk (hO.b0).lt
     refine looked_want (by first | rfl | simp [Region.wanted, yielded]) ?_
     intro K hK
     exact wp_load_row 27 _ rfl _ rfl 27 _ (0, 0) _ hbk Tryz.underlying27 rfl (by kernel_rfl) (hK _ _ (Below.refl _ _) rfl))
  refine LexL.is (c := .agg (trC x xm)) ?_ ?_
  · (intro u w' hk hd
     have hbk := (hO.b1).below hk (hO.b1).lt
     refine looked_want (by first | rfl | simp [Region.wanted, yielded]) ?_
     intro K hK
     exact wp_load_row 44 _ rfl _ rfl 44 _ (0, 0) _ hbk Tryz.underlying44 rfl (by kernel_rfl) (hK _ _ (Below.refl _ _) rfl))
  refine LexL.word (CopW W0.heap.size x xm) (grows_cop _ x xm) ?_ ?_
  · intro u w' hk hd
    simp [Waited, Region.binds, Is] at hd
    refine looked_want (by first | rfl | simp [Region.wanted, yielded]) ?_
    intro K hK
    go_wp2_with (first | (go_at_call 15; (with_reducible refine (hcp _ (below_then hO.below hk)).mono ?_); rintro e w3 ⟨⟨A1, c1, A2, c2, A3, c3, rfl, hown⟩, hb3⟩))
    simp only [hd] at hK
    exact hK _ _ hb3 ⟨A1, c1, A2, c2, A3, c3, rfl, hown.mono hk.size⟩
  apply LexL.is
  · (intro u w' hk hd
     simp [Waited, Region.binds, Is] at hd
     refine looked_want (by first | rfl | simp [Region.wanted, yielded, hd]) ?_
     intro K hK
     have hO2 := hO.grow hk; have hcn := hO2.b3.cell
     go_wp2_with (fail)
     try simp only [hd] at hK
     refine hK _ _ ?_ rfl
     first | exact Below.refl _ _ | exact hb3)
  refine LexL.word (BldW W0.heap.size m x xm now) (grows_bld _ m x xm now) ?_ ?_
  · intro u w' hk hd
    simp [Waited, Region.binds, Is] at hd
    obtain ⟨e0, e2, e3⟩ := hd
    obtain ⟨A1, c1, A2, c2, A3, c3, e2, ht⟩ := e2
    refine looked_want (by first | rfl | simp [Region.wanted, yielded]) ?_
    intro K hK
    exact wp_build_is 69 _ rfl [(0, .agg m.cells), (1, .agg (trC x (trAt xm A1 c1 A2 c2 A3 c3))), (2, .int .i64 now)] (by simp [Act.eval, e0, e2, e3]) _ (built_cab m x _ now) (hK _ _ (Below.refl _ _) ⟨A1, c1, A2, c2, A3, c3, rfl, ht⟩)
  refine LexL.word (BoxW W0.heap.size m x xm now) (grows_box _ m x xm now) ?_ ?_
  · intro u w' hk hd
    simp [Waited, Region.binds, Is] at hd
    obtain ⟨A1, c1, A2, c2, A3, c3, e4, ht⟩ := hd
    refine looked_want (by first | rfl | simp [Region.wanted, yielded]) ?_
    intro K hK
    go_wp2_with fail
    try simp only [e4] at hK
    exact hK _ _ ((Below.refl _ _).alloc (Nat.le_refl _) _) ⟨_, A1, c1, A2, c2, A3, c3, rfl, hk.size, Blk.new _ _ _, ht.below ((Below.refl _ _).alloc (Nat.le_refl _) _)⟩
  refine LexL.word (AlcW W0.heap.size) (grows_alc _) ?_ ?_
  · intro u w' hk hd
    clear hd
    refine looked_want (by first | rfl | simp [Region.wanted, yielded]) ?_
    intro K hK
    go_wp2_with fail
    exact hK _ _ ((Below.refl _ _).alloc (Nat.le_refl _) _) ⟨_, _, rfl, hk.size, Blk.new _ _ _⟩
  apply LexL.last
  intro u w1 hk hd
  obtain ⟨gc, A1, c1, A2, c2, A3, c3, e5, hgc, hbc, ht⟩ := hd 5 _ rfl
  obtain ⟨gp, y, e6, hgp, hbp⟩ := hd 6 _ rfl
  clear hd
  refine ⟨by first | rfl | simp [Region.wanted, yielded], ?_⟩
  intro K hK
  refine wp_store_c1 66 (.tmp 11) (.tmp 21) rfl gp 0 (by rw [← e6]; rfl) (.pointer (some ⟨gc, 0, none⟩)) (by rw [← e5]; rfl) 66 _ hbp (by simp) (by kernel_rfl) rfl (hK _ _ ?_)
  have hne : gc ≠ gp := by
    rintro rfl
    unfold Blk at hbc hbp
    rw [hbc] at hbp
    simp at hbp
  have hO2 : Own w (w1.setCell ⟨gp, 0, none⟩ (.pointer (some ⟨gc, 0, none⟩))) [(w.heap.size, 27, m.cells), (w.heap.size + 1, 44, trC x xm), (w.heap.size + 1 + 1, 49, #[.int .i64 0, .int .i64 0, .slice none 0 0]), (w.heap.size + 1 + 1 + 1, 3, #[.int .i64 now]), (w.heap.size + 1 + 1 + 1 + 1, 44, zeroTr), (gc, 69, cabC m x (trAt xm A1 c1 A2 c2 A3 c3) now), (gp, 66, #[.pointer (some ⟨gc, 0, none⟩)])] := by
    have hlt := hO.b4.lt
    have h1 := (hO.grow hk).turn (b := gp) (W' := w1.setCell ⟨gp, 0, none⟩ (.pointer (some ⟨gc, 0, none⟩))) (Nat.le_trans hO.below.size hgp) (fun y hy => by have := (hO.blk y hy).2.lt; omega) (by simp [World.setCell]) (fun k _ hk => Below.heap_setCell w1 ⟨gp, 0, none⟩ _ k hk) ⟨rfl, rfl, rfl⟩
    have h2 := h1.add (hbc.far (p := ⟨gp, 0, none⟩) hne (.pointer (some ⟨gc, 0, none⟩))) (Nat.le_trans hO.below.size hgc) (fun y hy => by have := (hO.blk y hy).2.lt; omega)
    exact h2.add (hbp.set_ 0 _) (Nat.le_trans hO.below.size hgp) (fun y hy => by
      rcases List.mem_append.1 hy with hy | hy
      · have := (hO.blk y hy).2.lt
        omega
      · rw [List.mem_singleton] at hy
        subst hy
        exact hne)
  have ht2 : TrOwn (w1.setCell ⟨gp, 0, none⟩ (.pointer (some ⟨gc, 0, none⟩))) w.heap.size x (trAt xm A1 c1 A2 c2 A3 c3) := (TrOwn.away (w' := w1.setCell ⟨gp, 0, none⟩ (.pointer (some ⟨gc, 0, none⟩))) ht (b := gp) ⟨rfl, rfl, rfl, by simp [World.setCell], fun k _ hk => Below.heap_setCell w1 ⟨gp, 0, none⟩ _ k (fun e => hk (by rw [e]))⟩ (noRow_blk hbp (by decide))).mono hO.below.size
  simp only [e6]
  generalize w1.setCell ⟨gp, 0, none⟩ (.pointer (some ⟨gc, 0, none⟩)) = W2 at *
  clear hO hk hbc hbp ht hgc hgp hcp hK e5 e6
  obtain ⟨xn, hxn⟩ : ∃ xn, xn = trAt xm A1 c1 A2 c2 A3 c3 := ⟨_, rfl⟩
  rw [← hxn] at hO2 ht2
  have HXN := Lib.hid hxn
  clear hxn
  have hO := hO2
  clear hO2
  go_wp2_with (first
    | ((with_reducible refine wpList_makeMap_own hO rfl rfl ?_); intro wR hOR hM hbR; obtain ⟨gm, hgm⟩ : ∃ g, g = W2.heap.size := ⟨_, rfl⟩; rw [← hgm] at hM ⊢; have hmB : w.heap.size ≤ gm := (by rw [hgm]; exact hO.below.size); have hmN : ∀ z ∈ ([(w.heap.size, 27, m.cells), (w.heap.size + 1, 44, trC x xm), (w.heap.size + 1 + 1, 49, #[.int .i64 0, .int .i64 0, .slice none 0 0]), (w.heap.size + 1 + 1 + 1, 3, #[.int .i64 now]), (w.heap.size + 1 + 1 + 1 + 1, 44, zeroTr), (gc, 69, cabC m x xn now), (gp, 66, #[.pointer (some ⟨gc, 0, none⟩)])] : List Bk), z.1 ≠ gm := (fun z hz => by have := (hO.blk z hz).2.lt; omega); replace ht2 := ht2.below hbR; replace hO := hOR; clear hOR hbR hgm; have hcp := hO.b6.cell)
    | ((with_reducible refine wpList_insert_own hO hM hmB hmN rfl _ _ _ rfl rfl _ rfl _ rfl Tryz.underlying75 Tryz.underlying3 rfl ?_); intro wR hOR hMR hgR; replace ht2 := ht2.away hgR (noRow_map hM); clear hM; replace hM := hMR; replace hO := hOR; clear hOR hMR hgR; have hcc := hO.b2.cell; have hcn := hO.b3.cell; have hcp := hO.b6.cell)
    | ((with_reducible refine wpList_lookup_own hM rfl _ _ rfl rfl _ rfl 0 _ Tryz.underlying75 Tryz.underlying3 rfl ?_))
    | ((with_reducible refine own_loadg0 hO ?_ _ rfl rfl _ Tryz.underlying27 rfl (by kernel_rfl) ?_); (· first | rfl | (simp [Region.wanted, yielded]; done)))
    | ((with_reducible refine own_loadg1 hO ?_ _ rfl rfl _ Tryz.underlying44 rfl (trC_info _ xm) ?_); (· first | rfl | (simp [Region.wanted, yielded]; done)))
    | (go_at_call 13; (with_reducible refine (hmx _ hO.below).mono ?_); rintro e w3 ⟨rfl, hb3⟩; clear hM; replace ht2 := ht2.below hb3; replace hO := hO.grow hb3; have hcc := hO.b2.cell; have hcn := hO.b3.cell; have hcp := hO.b6.cell)
    | (go_at_call 16; (have hgX := hO.b5); (rw [hcX xn (by rw [HXN.out]; exact hq.1) (by rw [HXN.out]; exact hq.2)] at hgX); (with_reducible refine (start_c hgX).mono ?_); rintro e w4 ⟨rfl, A, c, hbg, hg4⟩; replace ht2 := ht2.away hg4 (noRow_blk hO.b5 (by decide)); replace hO := Own.change (L1 := [_, _, _, _, _]) hO hg4 hbg; clear hbg hg4; have hcc := hO.b2.cell; have hcn := hO.b3.cell; have hcp := hO.b6.cell))
  have hgp4 : gp ≠ w.heap.size + 1 + 1 + 1 + 1 := blk_ne hO.b6 hO.b4 (by decide)
  have hgc4 : gc ≠ w.heap.size + 1 + 1 + 1 + 1 := blk_ne hO.b5 hO.b4 (by decide)
  have hout : w4.cell? ⟨gc, 53, none⟩ = some (.slice A 1 c) := (hO.b5.cell 53).trans (cabX_53 _ _ _ _ _ _ _ _ _ _)
  have hB4 : w.heap.size + 1 + 1 + 1 + 1 < w4.heap.size := hO.b4.lt
  have hbase := hO.below.size
  clear hcc hcn hcp
  apply wp_region_lexs [(w.heap.size + 1 + 1 + 1 + 1, none)]
  case hFl =>
    intro u
    simp only [List.map, fill, Act.put, List.setIfInBounds_toArray, List.set_cons_zero, List.set_cons_succ, Nat.reduceAdd, Nat.zero_add]
    rfl
  case hm => kernel_rfl
  case hB => kernel_rfl
  case hap => kernel_rfl
  apply LexS.is
  · (intro u w' hk hd
     simp [Waited, Region.binds, Is] at hd
     refine lookedT_want (by first | rfl | simp [Region.wanted, yielded, hd]) ?_
     intro K hK
     have hcp := (hk.blk hO.b6 (by intro o h; simp at h; omega)).cell
     go_wp2_with (fail)
     try simp only [hd] at hK
     refine hK _ _ ?_ rfl
     first | exact Stp.refl _ _ | exact Stp.of_below hb3 _)
  apply LexS.is
  · (intro u w' hk hd
     simp [Waited, Region.binds, Is] at hd
     refine lookedT_want (by first | rfl | simp [Region.wanted, yielded, hd]) ?_
     intro K hK
     skip
     go_wp2_with (fail)
     try simp only [hd] at hK
     refine hK _ _ ?_ rfl
     first | exact Stp.refl _ _ | exact Stp.of_below hb3 _)
  apply LexS.is
  · (intro u w' hk hd
     simp [Waited, Region.binds, Is] at hd
     refine lookedT_want (by first | rfl | simp [Region.wanted, yielded, hd]) ?_
     intro K hK
     skip
     go_wp2_with (fail)
     try simp only [hd] at hK
     refine hK _ _ ?_ rfl
     first | exact Stp.refl _ _ | exact Stp.of_below hb3 _)
  refine LexS.is (c := .agg (trC x (startM xn))) ?_ ?_
  · intro u w' hk hd
    simp [Waited, Region.binds, Is] at hd
    have hbk := hk.blk hO.b5 (by intro o h; simp at h; omega)
    refine lookedT_want (by first | rfl | simp [Region.wanted, yielded]) ?_
    intro K hK
    exact wp_load_mid 44 _ rfl gc 4 (by rw [← hd]; rfl) (trC x (startM xn)).toList _ ((htX (startM xn) ▸ cabX_tr) hbk) Tryz.underlying44 rfl (trC_info _ _) (hK _ _ (Stp.refl _ _) rfl)
  apply LexS.is
  · (intro u w' hk hd
     simp [Waited, Region.binds, Is] at hd
     refine lookedT_want (by first | rfl | simp [Region.wanted, yielded, hd]) ?_
     intro K hK
     have hcp := (hk.blk hO.b6 (by intro o h; simp at h; omega)).cell
     go_wp2_with (fail)
     try simp only [hd] at hK
     refine hK _ _ ?_ rfl
     first | exact Stp.refl _ _ | exact Stp.of_below hb3 _)
  apply LexS.is
  · (intro u w' hk hd
     simp [Waited, Region.binds, Is] at hd
     refine lookedT_want (by first | rfl | simp [Region.wanted, yielded, hd]) ?_
     intro K hK
     skip
     go_wp2_with (fail)
     try simp only [hd] at hK
     refine hK _ _ ?_ rfl
     first | exact Stp.refl _ _ | exact Stp.of_below hb3 _)
  apply LexS.is
  · (intro u w' hk hd
     simp [Waited, Region.binds, Is] at hd
     refine lookedT_want (by first | rfl | simp [Region.wanted, yielded, hd]) ?_
     intro K hK
     skip
     go_wp2_with (fail)
     try simp only [hd] at hK
     refine hK _ _ ?_ rfl
     first | exact Stp.refl _ _ | exact Stp.of_below hb3 _)
  apply LexS.is
  · (intro u w' hk hd
     simp [Waited, Region.binds, Is] at hd
     refine lookedT_want (by first | rfl | simp [Region.wanted, yielded, hd]) ?_
     intro K hK
     have hcy := (hk.blk hO.b5 (by intro o h; simp at h; omega)).cell 53; rw [cabX_53 _ _ _ _ _ _ _ _ _ _] at hcy
     go_wp2_with (fail)
     try simp only [hd] at hK
     refine hK _ _ ?_ rfl
     first | exact Stp.refl _ _ | exact Stp.of_below hb3 _)
  refine LexS.row (w.heap.size + 1 + 1 + 1 + 1) 44 _ (trC x (startM xn)) (by simp) hO.b4 (by rfl) 44 _ _ rfl (by kernel_rfl) (trC_ones _ _) ?_ ?_
  · (intro u w' hk hd
     simp [Waited, Region.binds, Is] at hd
     exact ⟨by first | rfl | simp [Region.wanted, yielded, hd], rfl, by simp [Act.eval, hd]⟩)
  apply LexS.is
  · (intro u w' hk hd
     simp [Waited, Region.binds, Is] at hd
     refine lookedT_want (by first | rfl | simp [Region.wanted, yielded, hd]) ?_
     intro K hK
     skip
     go_wp2_with (fail)
     try simp only [hd] at hK
     refine hK _ _ ?_ rfl
     first | exact Stp.refl _ _ | exact Stp.of_below hb3 _)
  apply LexS.is
  · (intro u w' hk hd
     simp [Waited, Region.binds, Is] at hd
     refine lookedT_want (by first | rfl | simp [Region.wanted, yielded, hd]) ?_
     intro K hK
     skip
     go_wp2_with (fail)
     try simp only [hd] at hK
     refine hK _ _ ?_ rfl
     first | exact Stp.refl _ _ | exact Stp.of_below hb3 _)
  refine LexS.nil ?_ ?_
  · simp [Go.Proofs.YtpjdcpicfkdioaaGreatDoor.W2.fit, Apart2]
  intro u w7 hk hd
  simp only [List.nil_append, List.cons_append] at hd
  have h8 : Blk w7 (w.heap.size + 1 + 1 + 1 + 1) 44 (trC x (startM xn)) := hd 8 _ rfl
  have h9 := hd 9 _ rfl
  have h10 := hd 10 _ rfl
  simp only [Is] at h9 h10
  clear hd
  simp only [h9, h10]
  clear h9 h10
  have hgr : w4.grownBy w7 (some (w.heap.size + 1 + 1 + 1 + 1)) := ⟨hk.os, hk.tape, hk.output, hk.size, fun k h1 hne => hk.block k h1 (fun o h => by simp at h; exact hne (by rw [h.1]))⟩
  have ht7 := ht2.away hgr (noRow_blk hO.b4 (by decide))
  have hbw : Below w.heap.size w w7 := hO.below.trans (hk.below hO.below.size (by intro k o h; simp at h; omega))
  clear hk hgr hO ht2
  go_wp2_with fail
  exact bodyPost_ret (results_ctt Tryz.results6 _ _ _ _ _ _ _ rfl rfl rfl h8 Tryz.underlying44 rfl (trC_info _ _)) rfl ⟨startM xn, A, c, rfl, hbw⟩
end Go.Proofs.YtpjdcpicfkdioaaGreatDoor
