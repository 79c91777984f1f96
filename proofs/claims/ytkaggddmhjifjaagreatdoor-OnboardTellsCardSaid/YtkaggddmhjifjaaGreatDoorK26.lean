/- Texts in one: StepS Awake19 LawAid BytesIn Light. -/
import Derived.Test.YtkaggddmhjifjaaGreatDoorK24
import Derived.Test.YtkaggddmhjifjaaGreatDoorK25
import Derived.Test.YtkaggddmhjifjaaGreatDoorRows
import Derived.Test.YtkaggddmhjifjaaGreatDoorK01
import Derived.ProofKit
import Derived.OpenShut
import Derived.Lib.SmallJoins
import Derived.ShutString
import Derived.ChangeOld
import Derived.Deep.Slices
import Derived.Test.YtkaggddmhjifjaaGreatDoorK14
set_option linter.unusedSimpArgs false
set_option linter.unusedVariables false
namespace Go.Proofs.YtkaggddmhjifjaaGreatDoor
open Go.RowKit Go.Shelf
theorem cabX_53 (m : TpM) (v : MaM) (A3 : Option Addr) (n3 c3 : Nat) (now st a nx : Int) (o : Value) : (cabX m v A3 n3 c3 now st a nx o)[53]? = some o := rfl
set_option maxRecDepth 8000 in
set_option maxHeartbeats 16000000 in
theorem stepS_c {w : World} {m : TpM} {v : MaM} (h : TpIs w line16 m) (hx : TrIs w train19 (heldM v)) : Calls Tryz.prog 18 #[.agg m.cells, .agg (trC train19 (heldM v)), .agg #[.int .i64 0, .int .i64 0, .slice none 0 0], .int .i64 32] w fun e w' => ∃ M A c, e = .returned (.tuple #[.agg (trC train19 M), .slice A 1 c, .int .i64 0]) ∧ Below w.heap.size w w' := by
 obtain ⟨x, hxx⟩ : ∃ x, x = train19 := ⟨_, rfl⟩
 obtain ⟨xm, hxm⟩ : ∃ xm, xm = heldM v := ⟨_, rfl⟩
 obtain ⟨now, hnow⟩ : ∃ n : Int, n = 32 := ⟨_, rfl⟩
 have hmb : mayX line16 x = true := by rw [hxx]; decide +kernel
 have hq : xm.q = q19 ∧ xm.nx = 1 := by rw [hxm]; exact ⟨rfl, rfl⟩
 have hcX : ∀ xn : TrM, xn.q = q19 → xn.nx = 1 → cabC m x xn now = cabX m xn.v xn.A3 xn.n3 xn.c3 now 0 0 1 (.slice none 0 0) := by rw [hxx]; exact fun xn h1 h2 => cabX_0 m xn now h1 h2
 have htX : ∀ (M : TrM), trC train19 M = trC x M := by rw [hxx]; exact fun _ => rfl
 have f2 : decide (now < 0) = false := by rw [hnow]; rfl
 have f3 : decide (268435456 < now) = false := by rw [hnow]; rfl
 rw [← hxx, ← hxm, ← hnow]
 rw [← hxx, ← hxm] at hx
 clear hxx hxm hnow
 have hO : Own w _ [_, _, _, _, _] := Own.start5 w 27 44 49 3 44 m.cells (trC x xm) #[.int .i64 0, .int .i64 0, .slice none 0 0] #[.int .i64 now] zeroTr
 have hcp := fun W (hW : Below w.heap.size w W) => copied_k x xm W (hx.below hW)
 have hmx := fun W (hW : Below w.heap.size w W) => mayX_m (h.below hW) x xm (hx.below hW)
 unfold zeroTr at hO
 have hcl := hO.b0.cell
 have hcx := hO.b1.cell
 have hcc := hO.b2.cell
 have hcn := hO.b3.cell
 rw [hmb] at hmx
 clear hmb
 go_enter Tryz.func18, Tryz.ntmps18
 go_wp2_with fail
 generalize hge : (((((w.alloc (.cells m.cells 27)).alloc (.cells (trC x xm) 44)).alloc (.cells #[.int .i64 0, .int .i64 0, .slice none 0 0] 49)).alloc (.cells #[.int .i64 now] 3)).alloc (.cells #[.int .i64 0, .int .i64 0, .int .i64 0, .int .i64 0, .int .i64 0, .int .i64 0, .int .i64 0, .int .i64 0, .int .i64 0, .int .i64 0, .int .i64 0, .int .i64 0, .int .i64 0, .int .u32 0, .int .u32 0, .int .u32 0, .int .u32 0, .int .i64 0, .int .u32 0, .int .u32 0, .int .u32 0, .int .u32 0, .int .u32 0, .int .u32 0, .bool false, .int .u32 0, .int .u32 0, .int .u32 0, .int .i64 0, .int .i64 0, .int .i64 0, .bool false, .int .i64 0, .bool false, .int .i64 0, .int .i64 0, .bool false, .int .i64 0, .int .i64 0, .bool false, .int .i64 0, .bool false, .slice none 0 0, .slice none 0 0, .int .i64 0, .int .i64 0, .bool false, .slice none 0 0] 44)) = W0 at *
 clear hge hcl hcx hcc hcn
 apply wp_region_lexl
 case hFl =>
  intro u
  simp only [List.map, fill, Act.put, List.setIfInBounds_toArray, List.set_cons_zero, List.set_cons_succ, Nat.reduceAdd, Nat.zero_add]
  rfl
 case hm => kernel_rfl
 case hB => kernel_rfl
 case hA => kernel_rfl
 case hap => kernel_rfl
 refine LexL.is (c := .agg (m.cells)) ?_ ?_
 ·
  (
   intro u w' hk hd
   have hbk := (hO.b0).below hk (hO.b0).lt
   refine looked_want (by first | rfl | simp [Region.wanted, yielded]) ?_
   intro K hK
   exact wp_load_row 27 _ rfl _ rfl 27 _ (0, 0) _ hbk Tryz.underlying27 rfl (by kernel_rfl) (hK _ _ (Below.refl _ _) rfl))
 refine LexL.is (c := .agg (trC x xm)) ?_ ?_
 ·
  (
   intro u w' hk hd
   have hbk := (hO.b1).below hk (hO.b1).lt
   refine looked_want (by first | rfl | simp [Region.wanted, yielded]) ?_
   intro K hK
   exact wp_load_row 44 _ rfl _ rfl 44 _ (0, 0) _ hbk Tryz.underlying44 rfl (by kernel_rfl) (hK _ _ (Below.refl _ _) rfl))
 refine LexL.word (CopW W0.heap.size x xm) (grows_cop _ x xm) ?_ ?_
 ·
  intro u w' hk hd
  simp [Waited, Region.binds, Is] at hd
  refine looked_want (by first | rfl | simp [Region.wanted, yielded]) ?_
  intro K hK
  go_wp2_with (first | (go_at_call 34; (with_reducible refine (hcp _ (below_then hO.below hk)).mono ?_); rintro e w3 ⟨⟨A1, c1, A2, c2, A3, c3, rfl, hown⟩, hb3⟩))
  simp only [hd] at hK
  exact hK _ _ hb3 ⟨A1, c1, A2, c2, A3, c3, rfl, hown.mono hk.size⟩
 apply LexL.is
 ·
  (
   intro u w' hk hd
   simp [Waited, Region.binds, Is] at hd
   refine looked_want (by first | rfl | simp [Region.wanted, yielded, hd]) ?_
   intro K hK
   have hO2 := hO.grow hk; have hcn := hO2.b3.cell
   go_wp2_with (fail)
   try simp only [hd] at hK
   refine hK _ _ ?_ rfl
   first | exact Below.refl _ _ | exact hb3)
 refine LexL.word (BldW W0.heap.size m x xm now) (grows_bld _ m x xm now) ?_ ?_
 ·
  intro u w' hk hd
  simp [Waited, Region.binds, Is] at hd
  obtain ⟨e0, e2, e3⟩ := hd
  obtain ⟨A1, c1, A2, c2, A3, c3, e2, ht⟩ := e2
  refine looked_want (by first | rfl | simp [Region.wanted, yielded]) ?_
  intro K hK
  exact wp_build_is 101 _ rfl [(0, .agg m.cells), (1, .agg (trC x (trAt xm A1 c1 A2 c2 A3 c3))), (2, .int .i64 now)] (by simp [Act.eval, e0, e2, e3]) _ (built_cab m x _ now) (hK _ _ (Below.refl _ _) ⟨A1, c1, A2, c2, A3, c3, rfl, ht⟩)
 refine LexL.word (BoxW W0.heap.size m x xm now) (grows_box _ m x xm now) ?_ ?_
 ·
  intro u w' hk hd
  simp [Waited, Region.binds, Is] at hd
  obtain ⟨A1, c1, A2, c2, A3, c3, e4, ht⟩ := hd
  refine looked_want (by first | rfl | simp [Region.wanted, yielded]) ?_
  intro K hK
  go_wp2_with fail
  try simp only [e4] at hK
  exact hK _ _ ((Below.refl _ _).alloc (Nat.le_refl _) _) ⟨_, A1, c1, A2, c2, A3, c3, rfl, hk.size, Blk.new _ _ _, ht.below ((Below.refl _ _).alloc (Nat.le_refl _) _)⟩
 refine LexL.word (AlcW W0.heap.size) (grows_alc _) ?_ ?_
 ·
  intro u w' hk hd
  clear hd
  refine looked_want (by first | rfl | simp [Region.wanted, yielded]) ?_
  intro K hK
  go_wp2_with fail
  exact hK _ _ ((Below.refl _ _).alloc (Nat.le_refl _) _) ⟨_, _, rfl, hk.size, Blk.new _ _ _⟩
 apply LexL.last
 intro u w1 hk hd
 obtain ⟨gc, A1, c1, A2, c2, A3, c3, e5, hgc, hbc, ht⟩ := hd 5 _ rfl
 obtain ⟨gp, y, e6, hgp, hbp⟩ := hd 6 _ rfl
 clear hd
 refine ⟨by first | rfl | simp [Region.wanted, yielded], ?_⟩
 intro K hK
 refine wp_store_c1 98 (.tmp 11) (.tmp 21) rfl gp 0 (by rw [← e6]; rfl) (.pointer (some ⟨gc, 0, none⟩)) (by rw [← e5]; rfl) 98 _ hbp (by simp) (by kernel_rfl) rfl (hK _ _ ?_)
 have hne : gc ≠ gp := by
  rintro rfl
  unfold Blk at hbc hbp
  rw [hbc] at hbp
  simp at hbp
 have hO2 : Own w (w1.setCell ⟨gp, 0, none⟩ (.pointer (some ⟨gc, 0, none⟩))) [(w.heap.size, 27, m.cells), (w.heap.size + 1, 44, trC x xm), (w.heap.size + 1 + 1, 49, #[.int .i64 0, .int .i64 0, .slice none 0 0]), (w.heap.size + 1 + 1 + 1, 3, #[.int .i64 now]), (w.heap.size + 1 + 1 + 1 + 1, 44, zeroTr), (gc, 101, cabC m x (trAt xm A1 c1 A2 c2 A3 c3) now), (gp, 98, #[.pointer (some ⟨gc, 0, none⟩)])] := by
  have hlt := hO.b4.lt
  have h1 := (hO.grow hk).turn (b := gp) (W' := w1.setCell ⟨gp, 0, none⟩ (.pointer (some ⟨gc, 0, none⟩))) (Nat.le_trans hO.below.size hgp) (fun y hy => by have := (hO.blk y hy).2.lt; omega) (by simp [World.setCell]) (fun k _ hk => Below.heap_setCell w1 ⟨gp, 0, none⟩ _ k hk) ⟨rfl, rfl, rfl⟩
  have h2 := h1.add (hbc.far (p := ⟨gp, 0, none⟩) hne (.pointer (some ⟨gc, 0, none⟩))) (Nat.le_trans hO.below.size hgc) (fun y hy => by have := (hO.blk y hy).2.lt; omega)
  exact h2.add (hbp.set_ 0 _) (Nat.le_trans hO.below.size hgp) (fun y hy => by
   rcases List.mem_append.1 hy with hy | hy
   ·
    have := (hO.blk y hy).2.lt
    omega
   ·
    rw [List.mem_singleton] at hy
    subst hy
    exact hne)
 have ht2 : TrOwn (w1.setCell ⟨gp, 0, none⟩ (.pointer (some ⟨gc, 0, none⟩))) w.heap.size x (trAt xm A1 c1 A2 c2 A3 c3) := (TrOwn.away (w' := w1.setCell ⟨gp, 0, none⟩ (.pointer (some ⟨gc, 0, none⟩))) ht (b := gp) ⟨rfl, rfl, rfl, by simp [World.setCell], fun k _ hk => Below.heap_setCell w1 ⟨gp, 0, none⟩ _ k (fun e => hk (by rw [e]))⟩ (noRow_blk hbp (by decide))).mono hO.below.size
 simp only [e6]
 generalize w1.setCell ⟨gp, 0, none⟩ (.pointer (some ⟨gc, 0, none⟩)) = W2 at *
 clear hO hk hbc hbp ht hgc hgp hcp hK e5 e6
 obtain ⟨xn, hxn⟩ : ∃ xn, xn = trAt xm A1 c1 A2 c2 A3 c3 := ⟨_, rfl⟩
 rw [← hxn] at hO2 ht2
 have HXN := Lib.hid hxn
 clear hxn
 have hO := hO2
 clear hO2
 go_wp2_with (first
  |((with_reducible refine wpList_makeMap_own hO rfl rfl ?_); intro wR hOR hM hbR; obtain ⟨gm, hgm⟩ : ∃ g, g = W2.heap.size := ⟨_, rfl⟩; rw [← hgm] at hM ⊢; have hmB : w.heap.size ≤ gm := (by rw [hgm]; exact hO.below.size); have hmN : ∀ z ∈ ([(w.heap.size, 27, m.cells), (w.heap.size + 1, 44, trC x xm), (w.heap.size + 1 + 1, 49, #[.int .i64 0, .int .i64 0, .slice none 0 0]), (w.heap.size + 1 + 1 + 1, 3, #[.int .i64 now]), (w.heap.size + 1 + 1 + 1 + 1, 44, zeroTr), (gc, 101, cabC m x xn now), (gp, 98, #[.pointer (some ⟨gc, 0, none⟩)])] : List Bk), z.1 ≠ gm := (fun z hz => by have := (hO.blk z hz).2.lt; omega); replace ht2 := ht2.below hbR; replace hO := hOR; clear hOR hbR hgm; have hcp := hO.b6.cell)
  |((with_reducible refine wpList_insert_own hO hM hmB hmN rfl _ _ _ rfl rfl _ rfl _ rfl Tryz.underlying107 Tryz.underlying3 rfl ?_); intro wR hOR hMR hgR; replace ht2 := ht2.away hgR (noRow_map hM); clear hM; replace hM := hMR; replace hO := hOR; clear hOR hMR hgR; have hcc := hO.b2.cell; have hcn := hO.b3.cell; have hcp := hO.b6.cell)
  |((with_reducible refine wpList_lookup_own hM rfl _ _ rfl rfl _ rfl 0 _ Tryz.underlying107 Tryz.underlying3 rfl ?_))
  |((with_reducible refine own_loadg0 hO ?_ _ rfl rfl _ Tryz.underlying27 rfl (by kernel_rfl) ?_); (· first | rfl | (simp [Region.wanted, yielded]; done)))
  |((with_reducible refine own_loadg1 hO ?_ _ rfl rfl _ Tryz.underlying44 rfl (trC_info _ xm) ?_); (· first | rfl | (simp [Region.wanted, yielded]; done)))
  |(go_at_call 19; (with_reducible refine (hmx _ hO.below).mono ?_); rintro e w3 ⟨rfl, hb3⟩; clear hM; replace ht2 := ht2.below hb3; replace hO := hO.grow hb3; have hcc := hO.b2.cell; have hcn := hO.b3.cell; have hcp := hO.b6.cell)
  |(go_at_call 35; (have hgX := hO.b5); (rw [hcX xn (by rw [HXN.out]; exact hq.1) (by rw [HXN.out]; exact hq.2)] at hgX); (with_reducible refine (start_c hgX).mono ?_); rintro e w4 ⟨rfl, A, c, hbg, hg4⟩; replace ht2 := ht2.away hg4 (noRow_blk hO.b5 (by decide)); replace hO := Own.change (L1 := [_, _, _, _, _]) hO hg4 hbg; clear hbg hg4; have hcc := hO.b2.cell; have hcn := hO.b3.cell; have hcp := hO.b6.cell))
 have hgp4 : gp ≠ w.heap.size + 1 + 1 + 1 + 1 := blk_ne hO.b6 hO.b4 (by decide)
 have hgc4 : gc ≠ w.heap.size + 1 + 1 + 1 + 1 := blk_ne hO.b5 hO.b4 (by decide)
 have hout : w4.cell? ⟨gc, 53, none⟩ = some (.slice A 1 c) := (hO.b5.cell 53).trans (cabX_53 _ _ _ _ _ _ _ _ _ _)
 have hB4 : w.heap.size + 1 + 1 + 1 + 1 < w4.heap.size := hO.b4.lt
 have hbase := hO.below.size
 clear hcc hcn hcp
 apply wp_region_lexs [(w.heap.size + 1 + 1 + 1 + 1, none)]
 case hFl =>
  intro u
  simp only [List.map, fill, Act.put, List.setIfInBounds_toArray, List.set_cons_zero, List.set_cons_succ, Nat.reduceAdd, Nat.zero_add]
  rfl
 case hm => kernel_rfl
 case hB => kernel_rfl
 case hap => kernel_rfl
 apply LexS.is
 ·
  (
   intro u w' hk hd
   simp [Waited, Region.binds, Is] at hd
   refine lookedT_want (by first | rfl | simp [Region.wanted, yielded, hd]) ?_
   intro K hK
   have hcp := (hk.blk hO.b6 (by intro o h; simp at h; omega)).cell
   go_wp2_with (fail)
   try simp only [hd] at hK
   refine hK _ _ ?_ rfl
   first | exact Stp.refl _ _ | exact Stp.of_below hb3 _)
 apply LexS.is
 ·
  (
   intro u w' hk hd
   simp [Waited, Region.binds, Is] at hd
   refine lookedT_want (by first | rfl | simp [Region.wanted, yielded, hd]) ?_
   intro K hK
   skip
   go_wp2_with (fail)
   try simp only [hd] at hK
   refine hK _ _ ?_ rfl
   first | exact Stp.refl _ _ | exact Stp.of_below hb3 _)
 apply LexS.is
 ·
  (
   intro u w' hk hd
   simp [Waited, Region.binds, Is] at hd
   refine lookedT_want (by first | rfl | simp [Region.wanted, yielded, hd]) ?_
   intro K hK
   skip
   go_wp2_with (fail)
   try simp only [hd] at hK
   refine hK _ _ ?_ rfl
   first | exact Stp.refl _ _ | exact Stp.of_below hb3 _)
 refine LexS.is (c := .agg (trC x (startM xn))) ?_ ?_
 ·
  intro u w' hk hd
  simp [Waited, Region.binds, Is] at hd
  have hbk := hk.blk hO.b5 (by intro o h; simp at h; omega)
  refine lookedT_want (by first | rfl | simp [Region.wanted, yielded]) ?_
  intro K hK
  exact wp_load_mid 44 _ rfl gc 4 (by rw [← hd]; rfl) (trC x (startM xn)).toList _ ((htX (startM xn) ▸ cabX_tr) hbk) Tryz.underlying44 rfl (trC_info _ _) (hK _ _ (Stp.refl _ _) rfl)
 apply LexS.is
 ·
  (
   intro u w' hk hd
   simp [Waited, Region.binds, Is] at hd
   refine lookedT_want (by first | rfl | simp [Region.wanted, yielded, hd]) ?_
   intro K hK
   have hcp := (hk.blk hO.b6 (by intro o h; simp at h; omega)).cell
   go_wp2_with (fail)
   try simp only [hd] at hK
   refine hK _ _ ?_ rfl
   first | exact Stp.refl _ _ | exact Stp.of_below hb3 _)
 apply LexS.is
 ·
  (
   intro u w' hk hd
   simp [Waited, Region.binds, Is] at hd
   refine lookedT_want (by first | rfl | simp [Region.wanted, yielded, hd]) ?_
   intro K hK
   skip
   go_wp2_with (fail)
   try simp only [hd] at hK
   refine hK _ _ ?_ rfl
   first | exact Stp.refl _ _ | exact Stp.of_below hb3 _)
 apply LexS.is
 ·
  (
   intro u w' hk hd
   simp [Waited, Region.binds, Is] at hd
   refine lookedT_want (by first | rfl | simp [Region.wanted, yielded, hd]) ?_
   intro K hK
   skip
   go_wp2_with (fail)
   try simp only [hd] at hK
   refine hK _ _ ?_ rfl
   first | exact Stp.refl _ _ | exact Stp.of_below hb3 _)
 apply LexS.is
 ·
  (
   intro u w' hk hd
   simp [Waited, Region.binds, Is] at hd
   refine lookedT_want (by first | rfl | simp [Region.wanted, yielded, hd]) ?_
   intro K hK
   have hcy := (hk.blk hO.b5 (by intro o h; simp at h; omega)).cell 53; rw [cabX_53 _ _ _ _ _ _ _ _ _ _] at hcy
   go_wp2_with (fail)
   try simp only [hd] at hK
   refine hK _ _ ?_ rfl
   first | exact Stp.refl _ _ | exact Stp.of_below hb3 _)
 refine LexS.row (w.heap.size + 1 + 1 + 1 + 1) 44 _ (trC x (startM xn)) (by simp) hO.b4 (by rfl) 44 _ _ rfl (by kernel_rfl) (trC_ones _ _) ?_ ?_
 ·
  (
   intro u w' hk hd
   simp [Waited, Region.binds, Is] at hd
   exact ⟨by first | rfl | simp [Region.wanted, yielded, hd], rfl, by simp [Act.eval, hd]⟩)
 apply LexS.is
 ·
  (
   intro u w' hk hd
   simp [Waited, Region.binds, Is] at hd
   refine lookedT_want (by first | rfl | simp [Region.wanted, yielded, hd]) ?_
   intro K hK
   skip
   go_wp2_with (fail)
   try simp only [hd] at hK
   refine hK _ _ ?_ rfl
   first | exact Stp.refl _ _ | exact Stp.of_below hb3 _)
 apply LexS.is
 ·
  (
   intro u w' hk hd
   simp [Waited, Region.binds, Is] at hd
   refine lookedT_want (by first | rfl | simp [Region.wanted, yielded, hd]) ?_
   intro K hK
   skip
   go_wp2_with (fail)
   try simp only [hd] at hK
   refine hK _ _ ?_ rfl
   first | exact Stp.refl _ _ | exact Stp.of_below hb3 _)
 refine LexS.nil ?_ ?_
 ·
  simp [Go.Proofs.YtkaggddmhjifjaaGreatDoor.W2.fit, Apart2]
 intro u w7 hk hd
 simp only [List.nil_append, List.cons_append] at hd
 have h8 : Blk w7 (w.heap.size + 1 + 1 + 1 + 1) 44 (trC x (startM xn)) := hd 8 _ rfl
 have h9 := hd 9 _ rfl
 have h10 := hd 10 _ rfl
 simp only [Is] at h9 h10
 clear hd
 simp only [h9, h10]
 clear h9 h10
 have hgr : w4.grownBy w7 (some (w.heap.size + 1 + 1 + 1 + 1)) := ⟨hk.os, hk.tape, hk.output, hk.size, fun k h1 hne => hk.block k h1 (fun o h => by simp at h; exact hne (by rw [h.1]))⟩
 have ht7 := ht2.away hgr (noRow_blk hO.b4 (by decide))
 have hbw : Below w.heap.size w w7 := hO.below.trans (hk.below hO.below.size (by intro k o h; simp at h; omega))
 clear hk hgr hO ht2
 go_wp2_with fail
 exact bodyPost_ret (results_ctt Tryz.results18 _ _ _ _ _ _ _ rfl rfl rfl h8 Tryz.underlying44 rfl (trC_info _ _)) rfl ⟨startM xn, A, c, rfl, hbw⟩
open Go.RowKit Go.Shelf
theorem setRow_new (W : World) (old cs : Array Value) (t : TypeId) : (W.alloc (.cells old t)).setRow W.heap.size cs = W.alloc (.cells cs t) := by
 unfold World.alloc World.setRow
 simp only
 congr 1
 apply Array.ext
 ·
  simp
 ·
  intro j h1 h2
  simp only [Array.getElem_modify, Array.getElem_push]
  simp only [Array.size_modify, Array.size_push] at h1
  by_cases h : j < W.heap.size
  ·
   have hn : W.heap.size ≠ j := by omega
   simp [h, hn]
  ·
   have hn : W.heap.size = j := by omega
   simp [hn]
theorem run_store_new {P : Program} (W : World) (t : TypeId) (old cells : Array Value) (hold : old.size = cells.size) (h1 : cells.all (·.oneCell') = true) : (storeCells ⟨W.heap.size, 0, none⟩ cells.toList).run P (W.alloc (.cells old t)) = .ok () (W.alloc (.cells cells t)) := by
 have := run_storeCells_from (P := P) W.heap.size t cells.toList 0 old (W.alloc (.cells old t)) (heap_alloc_new W _) (by simp; omega) (fun v hv => (Array.all_eq_true_iff_forall_mem.1 h1) v (by simpa using hv))
 rw [this]
 simp [setRow_new]
theorem ps_eq (W : World) : (binOp .eql 38 (.agg #[.int .i64 1, .int .i64 200, .bool false]) (.agg #[.int .i64 1, .int .i64 200, .bool false])).run Tryz.prog W = .ok (.bool true) W := by
 have u3 := Tryz.underlying3
 have a3 := Tryz.isAgg3
 have z3 := Tryz.sizeOf3
 have u4 := Tryz.underlying4
 have a4 := Tryz.isAgg4
 have z4 := Tryz.sizeOf4
 have hSE : Tryz.prog.underlying 38 = some (.struct (Tryz.prog.fieldsOf 38)) := by kernel_rfl
 have hpE : Tryz.prog.stoodInHeld 38 = false := by kernel_rfl
 rw [run_eql_struct, show (10000 : Nat) = 9999 + 1 from rfl]
 have hE := run_equalIn_agg (P := Tryz.prog) W 9999 38 #[.int .i64 1, .int .i64 200, .bool false] #[.int .i64 1, .int .i64 200, .bool false] hSE hpE
 simp only [Program.fieldsOf, Tryz.underlying38] at hE
 rw [hE]
 go_simp
def y19 : Tr := movedR line16 train19 250 32
theorem y19_is : y19.pos.edge = 1 ∧ y19.pos.at_ = 200 ∧ y19.pos.rev = false ∧ y19.ref = 8 ∧ y19.past = 180 ∧ mayX line16 y19 = true := by decide +kernel
theorem step_250 : stepE line16 train19 250 32 = 0 := by decide +kernel
theorem step_251 : stepE line16 train19 251 32 = 141 := by decide +kernel
theorem step_1 : stepE line16 train19 1 33 = 141 := by decide +kernel
theorem front_19 : frontX line16 train19 = some 40 := by decide +kernel
theorem auth_19 : totalT (authX line16 train19 32) = 250 ∧ (authX line16 train19 32).length ≤ 1000 := by decide +kernel
set_option maxRecDepth 8000 in
set_option maxHeartbeats 8000000 in
theorem awake_k (w : World) : Calls Tryz.prog 4 #[] w fun e w' => e = .returned (.bool true) ∧ Below w.heap.size w w' := by
 obtain ⟨y, hy, c34, c35, c36, c37, c38, hmay⟩ : ∃ y : Tr, movedR line16 train19 250 32 = y ∧ y.pos.edge = 1 ∧ y.pos.at_ = 200 ∧ y.pos.rev = false ∧ y.ref = 8 ∧ y.past = 180 ∧ mayX line16 y = true := ⟨y19, rfl, y19_is⟩
 have hs1 := fun (W : World) (M : TrM) => run_store_new (P := Tryz.prog) W 44 #[.int .i64 0, .int .i64 0, .int .i64 0, .int .i64 0, .int .i64 0, .int .i64 0, .int .i64 0, .int .i64 0, .int .i64 0, .int .i64 0, .int .i64 0, .int .i64 0, .int .i64 0, .int .u32 0, .int .u32 0, .int .u32 0, .int .u32 0, .int .i64 0, .int .u32 0, .int .u32 0, .int .u32 0, .int .u32 0, .int .u32 0, .int .u32 0, .bool false, .int .u32 0, .int .u32 0, .int .u32 0, .int .i64 0, .int .i64 0, .int .i64 0, .bool false, .int .i64 0, .bool false, .int .i64 0, .int .i64 0, .bool false, .int .i64 0, .int .i64 0, .bool false, .int .i64 0, .bool false, .slice none 0 0, .slice none 0 0, .int .i64 0, .int .i64 0, .bool false, .slice none 0 0] (trC train19 M) rfl (trC_ones _ _)
 have hs2 := fun (W : World) (M : TrM) => run_store_new (P := Tryz.prog) W 44 #[.int .i64 0, .int .i64 0, .int .i64 0, .int .i64 0, .int .i64 0, .int .i64 0, .int .i64 0, .int .i64 0, .int .i64 0, .int .i64 0, .int .i64 0, .int .i64 0, .int .i64 0, .int .u32 0, .int .u32 0, .int .u32 0, .int .u32 0, .int .i64 0, .int .u32 0, .int .u32 0, .int .u32 0, .int .u32 0, .int .u32 0, .int .u32 0, .bool false, .int .u32 0, .int .u32 0, .int .u32 0, .int .i64 0, .int .i64 0, .int .i64 0, .bool false, .int .i64 0, .bool false, .int .i64 0, .int .i64 0, .bool false, .int .i64 0, .int .i64 0, .bool false, .int .i64 0, .bool false, .slice none 0 0, .slice none 0 0, .int .i64 0, .int .i64 0, .bool false, .slice none 0 0] (trC y M) rfl (trC_ones _ _)
 have hs3 := fun (W : World) => run_store_new (P := Tryz.prog) W 44 #[.int .i64 0, .int .i64 0, .int .i64 0, .int .i64 0, .int .i64 0, .int .i64 0, .int .i64 0, .int .i64 0, .int .i64 0, .int .i64 0, .int .i64 0, .int .i64 0, .int .i64 0, .int .u32 0, .int .u32 0, .int .u32 0, .int .u32 0, .int .i64 0, .int .u32 0, .int .u32 0, .int .u32 0, .int .u32 0, .int .u32 0, .int .u32 0, .bool false, .int .u32 0, .int .u32 0, .int .u32 0, .int .i64 0, .int .i64 0, .int .i64 0, .bool false, .int .i64 0, .bool false, .int .i64 0, .int .i64 0, .bool false, .int .i64 0, .int .i64 0, .bool false, .int .i64 0, .bool false, .slice none 0 0, .slice none 0 0, .int .i64 0, .int .i64 0, .bool false, .slice none 0 0] zeroTr rfl (by kernel_rfl)
 have hli := fun W => line_k W
 have hps := fun W => ps_eq W
 unfold TpM.cells at hli
 go_enter Tryz.func4, Tryz.ntmps4
 go_wp2_with (first
  |(go_at_call 16; (with_reducible refine (holds_c _).mono ?_); rintro e w1 ⟨v, rfl, hX, hb1⟩; have hO := (Own.nil w).grow hb1; replace hO := hO.alloc 44 (trC train19 (heldM v)) w1.heap.size rfl; simp only [List.nil_append] at hO; replace hX := hX.below ((Below.refl _ _).alloc (Nat.le_refl _) (.cells (trC train19 (heldM v)) 44)))
  |(go_at_call 17; (with_reducible refine (hli _).mono ?_); rintro e w2 ⟨m, rfl, hT, hb2⟩; replace hO := hO.grow hb2; replace hX := hX.below hb2; replace hO := hO.alloc 27 #[.slice m.A1 m.n1 m.c1, .slice m.A2 m.n2 m.c2, .slice m.A3 m.n3 m.c3, .slice m.A4 m.n4 m.c4] w2.heap.size rfl; simp only [List.cons_append, List.nil_append] at hO; replace hX := hX.below ((Below.refl w2.heap.size w2).alloc (Nat.le_refl _) (.cells #[.slice m.A1 m.n1 m.c1, .slice m.A2 m.n2 m.c2, .slice m.A3 m.n3 m.c3, .slice m.A4 m.n4 m.c4] 27)); replace hT := hT.below ((Below.refl w2.heap.size w2).alloc (Nat.le_refl _) (.cells #[.slice m.A1 m.n1 m.c1, .slice m.A2 m.n2 m.c2, .slice m.A3 m.n3 m.c3, .slice m.A4 m.n4 m.c4] 27)); have hct2 := hO.b1.cell)
  |((with_reducible refine own_loadg0 hO ?_ _ rfl rfl _ Tryz.underlying44 rfl (trC_info _ _) ?_); (· first | rfl | (simp [Region.wanted, yielded]; done)))
  |((with_reducible refine own_loadg2 hO ?_ _ rfl rfl _ Tryz.underlying44 rfl (trC_info _ _) ?_); (· first | rfl | (simp [Region.wanted, yielded]; done)))
  |(go_at_call 18; (have hq := stepM_k hT train19 (heldM v) hX 250 32); (unfold StepPost TpM.cells at hq); (rw [step_250, hy] at hq); (with_reducible refine hq.mono ?_); clear hq; rintro e w3 ⟨cs, rfl, hb3, hz3, hy3⟩; obtain ⟨M1, rfl, hY⟩ := hy3 rfl; clear hz3 hy3; replace hO := hO.grow hb3; replace hX := hX.below hb3; replace hT := hT.below hb3; replace hO := hO.alloc 44 (trC y M1) w3.heap.size rfl; simp only [List.cons_append, List.nil_append] at hO; replace hX := hX.below ((Below.refl w3.heap.size w3).alloc (Nat.le_refl _) (.cells (trC y M1) 44)); replace hT := hT.below ((Below.refl w3.heap.size w3).alloc (Nat.le_refl _) (.cells (trC y M1) 44)); have hctw3 := hO.b1.cell; replace hY := hY.below ((Below.refl w3.heap.size w3).alloc (Nat.le_refl _) (.cells (trC y M1) 44)))
  |(go_at_call 18; (have hq := stepM_k hT train19 (heldM v) hX 251 32); (unfold StepPost TpM.cells at hq); (rw [step_251] at hq); (with_reducible refine hq.mono ?_); clear hq; rintro e w4 ⟨cs, rfl, hb4, hz4, hy4⟩; obtain rfl := hz4 (by decide); clear hz4 hy4; replace hO := hO.grow hb4; replace hX := hX.below hb4; replace hT := hT.below hb4; replace hO := hO.alloc 44 (zeroTr) w4.heap.size rfl; simp only [List.cons_append, List.nil_append] at hO; replace hX := hX.below ((Below.refl w4.heap.size w4).alloc (Nat.le_refl _) (.cells (zeroTr) 44)); replace hT := hT.below ((Below.refl w4.heap.size w4).alloc (Nat.le_refl _) (.cells (zeroTr) 44)); have hctw4 := hO.b1.cell; replace hY := (hY.below hb4).below ((Below.refl w4.heap.size w4).alloc (Nat.le_refl _) (.cells zeroTr 44)))
  |(go_at_call 18; (have hq := stepM_k hT train19 (heldM v) hX 1 33); (unfold StepPost TpM.cells at hq); (rw [step_1] at hq); (with_reducible refine hq.mono ?_); clear hq; rintro e w5 ⟨cs, rfl, hb5, hz5, hy5⟩; obtain rfl := hz5 (by decide); clear hz5 hy5; replace hO := hO.grow hb5; replace hX := hX.below hb5; replace hT := hT.below hb5; replace hO := hO.alloc 44 (zeroTr) w5.heap.size rfl; simp only [List.cons_append, List.nil_append] at hO; replace hX := hX.below ((Below.refl w5.heap.size w5).alloc (Nat.le_refl _) (.cells (zeroTr) 44)); replace hT := hT.below ((Below.refl w5.heap.size w5).alloc (Nat.le_refl _) (.cells (zeroTr) 44)); have hctw5 := hO.b1.cell; replace hY := (hY.below hb5).below ((Below.refl w5.heap.size w5).alloc (Nat.le_refl _) (.cells zeroTr 44)))
  |(go_at_call 18; (have hq := stepS_c hT hX); (unfold TpM.cells at hq); (with_reducible refine hq.mono ?_); clear hq; rintro e w6 ⟨M2, A, c, rfl, hb6⟩; replace hO := hO.grow hb6; replace hX := hX.below hb6; replace hT := hT.below hb6; replace hO := hO.alloc 44 (trC train19 M2) w6.heap.size rfl; simp only [List.cons_append, List.nil_append] at hO; replace hX := hX.below ((Below.refl w6.heap.size w6).alloc (Nat.le_refl _) (.cells (trC train19 M2) 44)); replace hT := hT.below ((Below.refl w6.heap.size w6).alloc (Nat.le_refl _) (.cells (trC train19 M2) 44)); have hctw6 := hO.b1.cell; replace hY := (hY.below hb6).below ((Below.refl w6.heap.size w6).alloc (Nat.le_refl _) (.cells (trC train19 M2) 44)))
  |(go_at_call 6; (have hq := frontX_m hT train19 (heldM v) hX); (unfold TpM.cells frontV at hq); (rw [front_19] at hq); (with_reducible refine hq.mono ?_); clear hq; rintro e w7 ⟨rfl, hb7⟩; replace hO := hO.grow hb7; replace hX := hX.below hb7; replace hT := hT.below hb7; replace hY := hY.below hb7; have hct7 := hO.b1.cell; have hcy := hO.b2.cell; have y34 := tr34 y M1; have y35 := tr35 y M1; have y36 := tr36 y M1; have y37 := tr37 y M1; have y38 := tr38 y M1; rw [c34] at y34; rw [c35] at y35; rw [c36] at y36; rw [c37] at y37; rw [c38] at y38; clear c34 c35 c36 c37 c38; obtain ⟨_, g34⟩ := Array.getElem?_eq_some_iff.1 y34; obtain ⟨_, g35⟩ := Array.getElem?_eq_some_iff.1 y35; obtain ⟨_, g36⟩ := Array.getElem?_eq_some_iff.1 y36; obtain ⟨_, g37⟩ := Array.getElem?_eq_some_iff.1 y37; obtain ⟨_, g38⟩ := Array.getElem?_eq_some_iff.1 y38)
  |(go_at_call 19; (have hq := mayX_m hT y M1 hY); (unfold TpM.cells at hq); (rw [hmay] at hq); (with_reducible refine hq.mono ?_); clear hq; rintro e w8 ⟨rfl, hb8⟩; replace hO := hO.grow hb8; replace hX := hX.below hb8; replace hT := hT.below hb8; have hct8 := hO.b1.cell)
  |(go_at_call 9; (have hq := auth_k hT train19 (heldM v) hX 32); (unfold TpM.cells at hq); (with_reducible refine hq.mono ?_); clear hq; rintro e w9 ⟨A9, c9, rfl, hr9, hb9⟩; replace hO := hO.grow hb9)
  |(go_at_call 20; (have hq := total_k _ _ c9 _ _ hr9 rfl auth_19.2); (rw [auth_19.1] at hq); (with_reducible refine hq.mono ?_); clear hq; rintro e w10 ⟨rfl, hb10⟩; replace hO := hO.grow hb10))
 go_ret
 exact ⟨rfl, hO.below⟩
open Go.ChangeShapes Go.WideShapes Go.ChangeAt Go.RowKit
open Go.ChangeMaps (open_string shut_string)
theorem own : ownKnob Tryz.prog.godebug = none := by kernel_rfl
theorem laidOut : laidOutB Tryz.prog = true := by kernel_rfl
section
variable {H : Type} {enc : TypeId × Value → H} {w : World} {base : Nat} {spare : Nat → Bool} {held : Bool}
theorem trod_q32 {fuel : Nat} {v : Value} {x : DataW H × List MemPlace} (h : DataW.trod enc Tryz.prog w base spare held fuel 30 [v] = some x) : ∃ a : BitVec 32, v = q32 a := by
 obtain ⟨n, e, _, hw⟩ := DataW.trod_int Tryz.underlying30 h
 obtain rfl : v = .int .u32 n := by simpa using e
 have hb := bounds_u32 hw
 exact ⟨_, q32_ofInt n hb.1 (by omega)⟩
end
end Go.Proofs.YtkaggddmhjifjaaGreatDoor
namespace Go.Proofs.YtkaggddmhjifjaaGreatDoor
open Go.ChangeShapes Go.WideShapes Go.ChangeAt Go.RowKit Go.Deep
theorem cell_lt {w : World} {a : Addr} {v : Value} (h : w.cell? a = some v) : a.block < w.heap.size := by
 rcases Nat.lt_or_ge a.block w.heap.size with hl | hl
 ·
  exact hl
 ·
  simp [World.cell?, Array.getElem?_eq_none hl] at h
section
variable {H : Type} {enc : TypeId × Value → H} {w : World} {base : Nat} {spare : Nat → Bool}
theorem int_of_trod {held : Bool} {fuel : Nat} {v : Value} {x : DataW H × List MemPlace} (hf : DataW.trod enc Tryz.prog w base spare held fuel 3 [v] = some x) : ∃ n : Int, v = .int .i64 n := by
 obtain ⟨n, e, _, _⟩ := DataW.trod_int Tryz.underlying3 hf
 exact ⟨n, by simpa using e⟩
end
end Go.Proofs.YtkaggddmhjifjaaGreatDoor
namespace Go.Proofs.YtkaggddmhjifjaaGreatDoor
open Go.RowKit Go.Shelf
structure TpL (w : World) (t : Tp) (m : TpM) : Prop where
 lies : TpAt w t m.A1 m.A2 m.A3 m.A4 m.rs
 e1 : t.edges.length = m.n1
 e2 : t.joints.length = m.n2
 e3 : t.bals.length = m.n3
 e4 : t.routes.length = m.n4
 q1 : m.n1 ≤ m.c1
 q2 : m.n2 ≤ m.c2
 q3 : m.n3 ≤ m.c3
 q4 : m.n4 ≤ m.c4
 q5 : ∀ p ∈ m.rs, p.1.path.length ≤ p.2.2
theorem TpL.below {w w' : World} {t : Tp} {m : TpM} (h : TpL w t m) (hb : Below w.heap.size w w') : TpL w' t m := { h with lies := h.lies.below hb }
def lightT (t : Tp) (m : TpM) : Bool := decide (m.n1 ≤ 100) && decide (m.n2 ≤ 100) && decide (m.n3 ≤ 100) && decide (m.n4 ≤ 100) && t.routes.all (fun r => decide (r.path.length ≤ 100))
theorem TpL.is {w : World} {t : Tp} {m : TpM} (h : TpL w t m) (hl : lightT t m = true) : TpIs w t m := by
 unfold lightT at hl
 simp only [Bool.and_eq_true, decide_eq_true_eq, List.all_eq_true] at hl
 obtain ⟨⟨⟨⟨h1, h2⟩, h3⟩, h4⟩, h5⟩ := hl
 exact ⟨h.lies, h.e1, h.e2, h.e3, h.e4, h1, h2, h3, h4, h5, h.q1, h.q2, h.q3, h.q4, h.q5⟩
theorem light_all {rs : List Rt} {k : Nat} {r : Rt} (h : rs[k]? = some r) : (rs.take (k + 1)).all (fun r => decide (r.path.length ≤ 100)) = ((rs.take k).all (fun r => decide (r.path.length ≤ 100)) && decide (r.path.length ≤ 100)) := by
 rw [take_snoc' h, List.all_append]
 simp
set_option maxRecDepth 8000 in
set_option maxHeartbeats 8000000 in
theorem light_k {w : World} {t : Tp} {m : TpM} (h : TpL w t m) (hc : m.n4 ≤ 9223372036854775807) : Calls Tryz.prog 54 #[.agg m.cells] w fun e w' => e = .returned (.bool (lightT t m)) ∧ Below w.heap.size w w' := by
 have hO : Own w _ [_] := (Own.nil w).alloc 27 m.cells _ rfl
 have hcl := hO.b0.cell
 have hr : lightT t m = (decide (m.n1 ≤ 100) && decide (m.n2 ≤ 100) && decide (m.n3 ≤ 100) && decide (m.n4 ≤ 100) && t.routes.all (fun r => decide (r.path.length ≤ 100))) := rfl
 generalize lightT t m = lt at *
 unfold TpM.cells at *
 by_cases h1 : m.n1 ≤ 100
 ·
  have f1 : decide (100 < (m.n1 : Int)) = false := by simp; omega
  by_cases h2 : m.n2 ≤ 100
  ·
   have f2 : decide (100 < (m.n2 : Int)) = false := by simp; omega
   by_cases h3 : m.n3 ≤ 100
   ·
    have f3 : decide (100 < (m.n3 : Int)) = false := by simp; omega
    by_cases h4 : m.n4 ≤ 100
    ·
     have f4 : decide (100 < (m.n4 : Int)) = false := by simp; omega
     simp only [h1, h2, h3, h4, decide_true, Bool.true_and] at hr
     have HR := Lib.hid hr
     have HE : Hid (t.routes.length = m.n4) := Lib.hid h.e4
     have hrt := h.lies.routes
     have his := Lib.hid h.lies.is
     have hlr : m.rs.length = m.n4 := by
      rw [← h.e4, ← h.lies.is, List.length_map]
     have HLR := Lib.hid hlr
     clear hr hlr h h1 h2 h3
     go_enter Tryz.func54, Tryz.ntmps54
     go_wp2_with fail
     go_loopw [3] (fun i wr => ∃ k : Nat, i = .int .i64 k ∧ k ≤ m.n4 ∧ Hid ((t.routes.take k).all (fun r => decide (r.path.length ≤ 100)) = true) ∧ Own w wr [(w.heap.size, 27, #[.slice m.A1 m.n1 m.c1, .slice m.A2 m.n2 m.c2, .slice m.A3 m.n3 m.c3, .slice m.A4 m.n4 m.c4])]) (fun i _ => m.n4 - (intOf i).toNat)
     case atStart => exact ⟨0, rfl, Nat.zero_le _, Lib.hid rfl, hO⟩
     case round =>
      clear hO hcl
      obtain ⟨k, rfl, hk, hall, hO⟩ := hrel
      have hcl := hO.b0.cell
      by_cases hlt : k < m.n4
      ·
       obtain ⟨p, hp⟩ := get_some HLR.out hlt
       obtain ⟨g, off, hA, hg, _, a1, _⟩ := hrt.rt hp
       have k1 := (hO.below.cell (p := ⟨g, off + k * 4 + 1, none⟩) hg).trans a1
       have hp2 : t.routes[k]? = some p.1 := by
        rw [← his.out, List.getElem?_map, hp]
        rfl
       have hst := Lib.hid (light_all hp2)
       simp only [hA] at hO hcl
       by_cases h5 : p.1.path.length ≤ 100
       ·
        have f5 : decide (100 < (p.1.path.length : Int)) = false := by simp; omega
        have hok : (t.routes.take (k + 1)).all (fun r => decide (r.path.length ≤ 100)) = true := by
         rw [hst.out, hall.out]
         simpa using h5
        have HOK := Lib.hid hok
        clear hp hp2 hst hall hok a1 h5
        go_wp2_with fail
        go_roundw
        case rel => exact ⟨k + 1, by go_num, by omega, HOK, by rw [hA]; exact hO⟩
        case measure => simp [intOf]; omega
       ·
        have f5 : decide (100 < (p.1.path.length : Int)) = true := by simp; omega
        have hno : lt = false := by
         rw [HR.out, List.all_eq_false]
         exact ⟨p.1, List.mem_of_getElem? hp2, by simpa using h5⟩
        have HNO := Lib.hid hno
        clear hp hp2 hst hall hno a1 h5
        go_wp2_with fail
        go_ret
        exact ⟨by rw [HNO.out]; rfl, hO.below⟩
      ·
       obtain rfl : k = m.n4 := by omega
       have hyes : lt = true := by
        have := hall.out
        rw [List.take_of_length_le (by rw [HE.out]; exact Nat.le_refl _)] at this
        rw [HR.out, this]
       have HY := Lib.hid hyes
       clear hall hyes
       go_wp2_with fail
       go_ret
       exact ⟨by rw [HY.out]; rfl, hO.below⟩
    ·
     have f4 : decide (100 < (m.n4 : Int)) = true := by simp; omega
     obtain rfl : lt = false := by rw [hr]; simp [h4]
     clear hr
     go_enter Tryz.func54, Tryz.ntmps54
     go_wp2_with fail
     go_ret
     exact ⟨rfl, hO.below⟩
   ·
    have f3 : decide (100 < (m.n3 : Int)) = true := by simp; omega
    obtain rfl : lt = false := by rw [hr]; simp [h3]
    clear hr
    go_enter Tryz.func54, Tryz.ntmps54
    go_wp2_with fail
    go_ret
    exact ⟨rfl, hO.below⟩
  ·
   have f2 : decide (100 < (m.n2 : Int)) = true := by simp; omega
   obtain rfl : lt = false := by rw [hr]; simp [h2]
   clear hr
   go_enter Tryz.func54, Tryz.ntmps54
   go_wp2_with fail
   go_ret
   exact ⟨rfl, hO.below⟩
 ·
  have f1 : decide (100 < (m.n1 : Int)) = true := by simp; omega
  obtain rfl : lt = false := by rw [hr]; simp [h1]
  clear hr
  go_enter Tryz.func54, Tryz.ntmps54
  go_wp2_with fail
  go_ret
  exact ⟨rfl, hO.below⟩
end Go.Proofs.YtkaggddmhjifjaaGreatDoor
