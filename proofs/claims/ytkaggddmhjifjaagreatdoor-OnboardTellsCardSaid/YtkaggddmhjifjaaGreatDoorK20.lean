/- Texts in one: Line Walk Locate New Ask PduMath Cipher Mac BytesOwn BytesStr BytesNew. -/
import Derived.Test.YtkaggddmhjifjaaGreatDoorK19
import Derived.WalkMore
import Derived.Scope
import Derived.Test.YtkaggddmhjifjaaGreatDoorK01
import Derived.Test.YtkaggddmhjifjaaGreatDoorChecked
import Derived.Deep.QuietTactic
import Derived.BigQuiet
import Derived.Lib.Hide
import Derived.RangeFuncNested
import Derived.RangeFuncBound
import Derived.RangeFuncCalls
import Derived.RangeFuncLeaves
import Derived.RangeFuncFrom
import Derived.Shelf.Abstract
import Derived.Shelf.RegionOpen
import Derived.OwnWalkIn
import Derived.TacticsInMore
import Derived.LoopNIn
import Derived.LoopIn
import Derived.Laws.BytesArg
import Derived.Laws.IdiomStrings
import Derived.Laws.Strings
import Derived.WalkSpells
set_option linter.unusedSimpArgs false
set_option linter.unusedVariables false
namespace Go.Proofs.YtkaggddmhjifjaaGreatDoor
open Go.RowKit Go.Shelf
theorem rows_blk {α : Type} {E : Laid α} {w : World} {g : Nat} {t : TypeId} {cs : Array Value} {xs : List α} (h : Blk w g t cs) (he : cs.toList = E.flat xs) : RowsAt E w (some ⟨g, 0, none⟩) xs := fun _ => ⟨g, 0, rfl, h.lt, fun j u hu => by
 rw [Nat.zero_add, h.cell, ← Array.getElem?_toList, he]
 exact hu⟩
set_option maxRecDepth 8000 in
set_option maxHeartbeats 8000000 in
theorem line_k (w : World) : Calls Tryz.prog 17 #[] w fun e w' => ∃ m : TpM, e = .returned (.agg m.cells) ∧ TpIs w' line16 m ∧ Below w.heap.size w w' := by
 go_enter Tryz.func17, Tryz.ntmps17
 go_wp2_with fail
 have hO := ((Own.start5 w 27 3 91 93 95 #[.slice (some ⟨w.heap.size + 1, 0, none⟩) 3 3, .slice (some ⟨w.heap.size + 1 + 1, 0, none⟩) 2 2, .slice (some ⟨w.heap.size + 1 + 1 + 1, 0, none⟩) 3 3, .slice (some ⟨w.heap.size + 1 + 1 + 1 + 1 + 1 + 1, 0, none⟩) 2 2] #[.int .i64 100, .int .i64 200, .int .i64 300] #[.int .i64 0, .int .i64 1, .int .i64 1, .int .i64 0, .int .i64 1, .int .i64 1, .int .i64 2, .int .i64 0] #[.int .i64 7, .int .i64 0, .int .i64 10, .int .i64 8, .int .i64 1, .int .i64 20, .int .i64 9, .int .i64 2, .int .i64 30] #[.int .i64 0, .bool false, .int .i64 1, .bool false]).alloc 95 #[.int .i64 1, .bool false, .int .i64 2, .bool false] (w.heap.size + 1 + 1 + 1 + 1 + 1) (by simp)).alloc 97 #[.int .i64 1, .slice (some ⟨w.heap.size + 1 + 1 + 1 + 1, 0, none⟩) 2 2, .int .i64 0, .int .i64 30, .int .i64 2, .slice (some ⟨w.heap.size + 1 + 1 + 1 + 1 + 1, 0, none⟩) 2 2, .int .i64 50, .int .i64 20] (w.heap.size + 1 + 1 + 1 + 1 + 1 + 1) (by simp)
 simp only [List.cons_append, List.nil_append] at hO
 refine bodyPost_ret (results_cell_row Tryz.results17 _ _ _ _ _ _ _ rfl hO.b0 Tryz.underlying27 rfl (by kernel_rfl)) rfl ⟨⟨some ⟨w.heap.size + 1, 0, none⟩, 3, 3, some ⟨w.heap.size + 1 + 1, 0, none⟩, 2, 2, some ⟨w.heap.size + 1 + 1 + 1, 0, none⟩, 3, 3, some ⟨w.heap.size + 1 + 1 + 1 + 1 + 1 + 1, 0, none⟩, 2, 2, [(⟨1, [⟨0, false⟩, ⟨1, false⟩], 0, 30⟩, some ⟨w.heap.size + 1 + 1 + 1 + 1, 0, none⟩, 2), (⟨2, [⟨1, false⟩, ⟨2, false⟩], 50, 20⟩, some ⟨w.heap.size + 1 + 1 + 1 + 1 + 1, 0, none⟩, 2)]⟩, rfl, ⟨⟨rows_blk hO.b1 rfl, rows_blk hO.b2 rfl, rows_blk hO.b3 rfl, rows_blk hO.b6 rfl, rfl, ?_⟩, rfl, rfl, rfl, rfl, by simp, by simp, by simp, by simp, by decide, by simp, by simp, by simp, by simp, ?_⟩, hO.below⟩
 ·
  intro p hp
  simp only [List.mem_cons, List.not_mem_nil, or_false] at hp
  rcases hp with rfl | rfl
  ·
   exact rows_blk hO.b4 rfl
  ·
   exact rows_blk hO.b5 rfl
 ·
  intro p hp
  simp only [List.mem_cons, List.not_mem_nil, or_false] at hp
  rcases hp with rfl | rfl <;> simp
open Go.RowKit Go.Shelf
set_option maxRecDepth 8000 in
set_option maxHeartbeats 8000000 in
theorem walk_c {w : World} {m : TpM} (h : TpIs w line16 m) : Calls Tryz.prog 125 #[.agg m.cells, psV ⟨0, 10, false⟩, .int .i64 40] w fun e w' => e = .returned (.tuple #[psV ⟨0, 50, false⟩, .int .i64 0]) ∧ Below w.heap.size w w' := by
 have hO : Own w _ [_, _, _] := Own.start3 w 27 38 38 m.cells #[.int .i64 0, .int .i64 10, .bool false] #[.int .i64 0, .int .i64 0, .bool false]
 have hcl := hO.b0.cell
 have hcx := hO.b1.cell
 have hri := fun W (hW : Below w.heap.size w W) => right_m (h.below hW) ⟨0, 10, false⟩
 have hal := fun W (hW : Below w.heap.size w W) => along_m (h.below hW) ⟨0, 10, false⟩ (by decide +kernel)
 have hov := fun W (hW : Below w.heap.size w W) => over_m (h.below hW) ⟨0, false⟩ 50 (by decide +kernel) (by decide +kernel) (by decide) (by decide)
 rw [show rightT line16 ⟨0, 10, false⟩ = true by decide +kernel] at hri
 rw [show alongT line16 ⟨0, 10, false⟩ = 10 by decide +kernel] at hal
 rw [show overT line16 ⟨0, false⟩ 50 = ⟨0, 50, false⟩ from rfl] at hov
 obtain ⟨i, ev, ge, offe, hi, hin, hie, hA1, hke, hev⟩ := edge_at h (show thereT line16 0 = true by decide +kernel)
 rw [show edgeT line16 0 = 100 by decide +kernel] at hie
 obtain rfl : i = 0 := by omega
 subst hie
 have hq1 := h.q1
 simp only [Nat.add_zero] at hke
 unfold psV stV at *
 simp only [TpM.cells, hA1] at hO hcl hcx hri hal hov ⊢
 clear hi hev h
 go_enter Tryz.func125, Tryz.ntmps125
 go_wp2_with fail
 go_step3
 go_wp2_with (first
  |(go_at_call 48; (with_reducible refine (hri _ hO.below).mono ?_); rintro e w1 ⟨rfl, hb1⟩; replace hO := hO.grow hb1; have hsz1 : w.heap.size + 1 + 1 + 1 ≤ w1.heap.size := hO.b2.lt; have hcx1 := hO.b1.cell; replace hO := Own.new3 hO 95 #[.int .i64 0, .bool false]; have hcl1 := hO.b0.cell; have hcx3 := hO.b1.cell)
  |(go_at_call 108; (with_reducible refine (hal _ hO.below).mono ?_); rintro e w2 ⟨rfl, hb2⟩; replace hO := hO.grow hb2; have hw1 : w.heap.size + 1 + 1 + 1 ≤ w1.heap.size := hsz1; have hcl2 := hO.b0.cell; have hcx2 := hO.b1.cell))
 go_step3
 go_wp2_with fail
 obtain ⟨g3, hg3⟩ : ∃ g, g = w1.heap.size := ⟨_, rfl⟩
 rw [← hg3] at hO ⊢
 clear hg3
 go_loopw [2, 9] (fun s s9 wr => s = .int .i64 50 ∧ s9 = .int .i64 0 ∧ Own w wr [(w.heap.size, 27, #[.slice (some ⟨ge, offe, none⟩) m.n1 m.c1, .slice m.A2 m.n2 m.c2, .slice m.A3 m.n3 m.c3, .slice m.A4 m.n4 m.c4]), (w.heap.size + 1, 38, #[.int .i64 0, .int .i64 10, .bool false]), (w.heap.size + 1 + 1, 38, #[.int .i64 0, .int .i64 0, .bool false]), (g3, 95, #[.int .i64 0, .bool false])]) (fun _ _ _ => 0)
 case atStart =>
  exact ⟨rfl, rfl, hO⟩
 case round =>
  clear hO
  obtain ⟨rfl, rfl, hO⟩ := hrel
  have hcl3 := hO.b0.cell
  have hcs3 := hO.b3.cell
  have ke := hke _ hO.below
  go_wp2_with (first
   |(go_at_call 156; (with_reducible refine (hov _ hO.below).mono ?_); rintro e w4 ⟨rfl, hb4⟩; replace hO := hO.grow hb4; have hcz := hO.b2.cell; have hf0 := hO.b2.frozen 0; have hf1 := hO.b2.frozen 1; have hf2 := hO.b2.frozen 2))
  rw [Exit.noGoto_ret]
  have hbz := ((hO.b2.set_ 0 (.int .i64 0)).set_ 1 (.int .i64 50)).set_ 2 (.bool false)
  have hlo : w.heap.size ≤ w.heap.size + 1 + 1 := by omega
  exact bodyPost_ret (results_ct1 Tryz.results125 _ _ _ _ _ _ rfl rfl hbz Tryz.underlying38 rfl (by kernel_rfl)) rfl ⟨rfl, ((hO.below.setCell (p := ⟨w.heap.size + 1 + 1, 0, none⟩) hlo _).setCell (p := ⟨w.heap.size + 1 + 1, 1, none⟩) hlo _).setCell (p := ⟨w.heap.size + 1 + 1, 2, none⟩) hlo _⟩
open Go.RowKit Go.Shelf
set_option maxRecDepth 8000 in
set_option maxHeartbeats 8000000 in
theorem locate_c {w : World} {m : TpM} (h : TpIs w line16 m) : Calls Tryz.prog 71 #[.agg m.cells, .int .i64 7, .bool false, .int .i64 40] w fun e w' => e = .returned (.tuple #[psV ⟨0, 50, false⟩, .int .i64 0]) ∧ Below w.heap.size w w' := by
 have hO : Own w _ [_, _] := Own.start2 w 27 38 m.cells #[.int .i64 0, .int .i64 0, .bool false]
 have hcl := hO.b0.cell
 have hck := fun W (hW : Below w.heap.size w W) => check_m (h.below hW)
 have hba := fun W (hW : Below w.heap.size w W) => bal_m (h.below hW) 7
 have hwa := fun W (hW : Below w.heap.size w W) => walk_c (h.below hW)
 rw [show checkT line16 = 0 by decide +kernel] at hck
 rw [show balT line16 7 = some ⟨7, 0, 10⟩ from rfl] at hba
 simp only [Option.getD_some, Option.isSome_some] at hba
 unfold psV at *
 unfold TpM.cells at *
 clear h
 go_enter Tryz.func71, Tryz.ntmps71
 go_wp2_with (first
  |(go_at_call 70; (with_reducible refine (hck _ hO.below).mono ?_); rintro e w1 ⟨rfl, hb1⟩; replace hO := hO.grow hb1; have hcl1 := hO.b0.cell)
  |(go_at_call 50; (with_reducible refine (hba _ hO.below).mono ?_); rintro e w2 ⟨rfl, hb2⟩; replace hO := hO.grow hb2; replace hO := Own.new2 hO 93 #[.int .i64 7, .int .i64 0, .int .i64 10]; have hcl2 := hO.b0.cell; have hcb2 := hO.b2.cell)
  |(go_at_call 125; (with_reducible refine (hwa _ hO.below).mono ?_); rintro e w4 ⟨rfl, hb4⟩; replace hO := hO.grow hb4; have hcz := hO.b1.cell; have hf0 := hO.b1.frozen 0; have hf1 := hO.b1.frozen 1; have hf2 := hO.b1.frozen 2))
 have hbz := ((hO.b1.set_ 0 (.int .i64 0)).set_ 1 (.int .i64 50)).set_ 2 (.bool false)
 have hlo : w.heap.size ≤ w.heap.size + 1 := by omega
 exact bodyPost_ret (results_ct1 Tryz.results71 _ _ _ _ _ _ rfl rfl hbz Tryz.underlying38 rfl (by kernel_rfl)) rfl ⟨rfl, ((hO.below.setCell (p := ⟨w.heap.size + 1, 0, none⟩) hlo _).setCell (p := ⟨w.heap.size + 1, 1, none⟩) hlo _).setCell (p := ⟨w.heap.size + 1, 2, none⟩) hlo _⟩
open Go.RowKit Go.Shelf
def rulesC : Array Value := #[.int .i64 100, .int .i64 100, .int .i64 10, .int .i64 2, .int .i64 50, .int .i64 70, .int .i64 20, .int .i64 0, .int .i64 0]
theorem rules19_k (w : World) : Calls Tryz.prog 32 #[] w fun e w' => e = .returned (.agg rulesC) ∧ Below w.heap.size w w' := by
 have hO : Own w _ [_] := (Own.nil w).alloc 29 rulesC _ rfl
 unfold rulesC at *
 go_enter Tryz.func32, Tryz.ntmps32
 go_wp2_with fail
 exact bodyPost_ret (results_cell_row Tryz.results32 _ _ _ _ _ _ _ rfl hO.b0 Tryz.underlying29 rfl (by kernel_rfl)) rfl ⟨rfl, hO.below⟩
def new19 : Tr := ⟨5, 400, rules19, 0, 5, -1, 100, 100, false, -1, false, ⟨0, 50, false⟩, 7, 40, false, ⟨0, false, [], [], 0⟩, 0, false, []⟩
def q19 : Pr19 := ⟨1, 2, 3, 4, 0, 0, 0, 0, 0, 0, 0, false, 0, 0⟩
def newM : TrM := ⟨q19, 1, ⟨none, 0, 0, none, 0, 0⟩, none, 0, 0⟩
def newC (a b c : Int) (d : Bool) : Array Value := #[.int .i64 5, .int .i64 400, .int .i64 100, .int .i64 100, .int .i64 10, .int .i64 2, .int .i64 50, .int .i64 70, .int .i64 20, .int .i64 0, .int .i64 0, .int .i64 0, .int .i64 5, .int .u32 1, .int .u32 2, .int .u32 3, .int .u32 4, .int .i64 0, .int .u32 0, .int .u32 0, .int .u32 0, .int .u32 0, .int .u32 0, .int .u32 0, .bool false, .int .u32 0, .int .u32 0, .int .u32 1, .int .i64 a, .int .i64 b, .int .i64 c, .bool d, .int .i64 (-1), .bool false, .int .i64 0, .int .i64 50, .bool false, .int .i64 7, .int .i64 40, .bool false, .int .i64 0, .bool false, .slice none 0 0, .slice none 0 0, .int .i64 0, .int .i64 0, .bool false, .slice none 0 0]
theorem newC_is : newC (-1) 100 100 false = trC new19 newM := rfl
theorem new19_is (w : World) : TrIs w new19 newM := ⟨⟨RowsAt.nil _ _, RowsAt.nil _ _, rfl, rfl, by decide, by decide, by decide, by decide⟩, RowsAt.nil _ _, rfl, by decide, by decide⟩
theorem wpList_build_is {P : Program} {W : World} {ops : Array Oper} {rest : List Oper} {o : Oper} {a : Act} {Q : Exit → Act → World → Prop} (hgd : o.guard = none) (t : TypeId) (parts : Array (Nat × Operand)) (ho : o.op = .build t parts) (cs : Array Value) (hc : P.built t (parts.map fun (i, x) => (i, a.eval x)).toList = some cs)
  (h : wpList P ops Q rest (a.put o.dst (.agg cs)) W) : wpList P ops Q (o :: rest) a W :=
 wpList_plain hgd fun K hK => wp_build t parts ho (by rw [hc]; rfl) (by rw [hc]; exact hK _ _ h)
def peer0 : Array Value := #[.int .i64 0, .int .i64 5, .int .u32 1, .int .u32 2, .int .u32 3, .int .u32 4, .int .i64 0, .int .u32 0, .int .u32 0, .int .u32 0, .int .u32 0, .int .u32 0, .int .u32 0, .bool false, .int .u32 0, .int .u32 0]
theorem r0 : rulesC[0]? = some (.int .i64 100) := rfl
theorem r1 : rulesC[1]? = some (.int .i64 100) := rfl
theorem newC_set : ((((newC 0 0 0 false).setIfInBounds 28 (.int .i64 (-1))).setIfInBounds 29 (.int .i64 100)).setIfInBounds 30 (.int .i64 100)).setIfInBounds 31 (.bool false) = newC (-1) 100 100 false := rfl
theorem grown4 (w : World) (g a b c d : Nat) (x y z v : Value) : w.grownBy ((((w.setCell ⟨g, a, none⟩ x).setCell ⟨g, b, none⟩ y).setCell ⟨g, c, none⟩ z).setCell ⟨g, d, none⟩ v) (some g) := by
 have one : ∀ (w : World) (i : Nat) (x : Value), w.grownBy (w.setCell ⟨g, i, none⟩ x) (some g) := fun w i x => ⟨rfl, rfl, rfl, by simp [World.setCell], fun k _ hne => Below.heap_setCell w ⟨g, i, none⟩ x k (fun e => hne (by rw [e]))⟩
 exact grownBy_trans (grownBy_trans (grownBy_trans (one _ _ _) (one _ _ _)) (one _ _ _)) (one _ _ _)
set_option maxRecDepth 8000 in
set_option maxHeartbeats 8000000 in
theorem new_c {w : World} {m : TpM} (h : TpIs w line16 m) : Calls Tryz.prog 31 #[.agg m.cells, .agg rulesC, .int .i64 5, .int .i64 400, .agg #[.int .u32 1, .int .u32 2, .int .u32 3, .int .u32 4], .int .i64 7, .bool false, .int .i64 40] w fun e w' => e = .returned (.tuple #[.agg (trC new19 newM), .int .i64 0]) ∧ Below w.heap.size w w' := by
 have hO : Own w _ [_, _, _, _] := Own.start4 w 27 29 32 44 m.cells rulesC #[.int .u32 1, .int .u32 2, .int .u32 3, .int .u32 4] zeroTr
 unfold zeroTr at hO
 have hck := fun W (hW : Below w.heap.size w W) => check_m (h.below hW)
 have hlo := fun W (hW : Below w.heap.size w W) => locate_c (h.below hW)
 have hsn := fun W => snew_k 100 100 W
 have hmx := fun W (hW : Below w.heap.size w W) => mayX_m (h.below hW) new19 newM (new19_is W)
 rw [show checkT line16 = 0 by decide +kernel] at hck
 rw [show mayX line16 new19 = true by decide +kernel] at hmx
 rw [show stampN 100 100 = #[.int .i64 (-1), .int .i64 100, .int .i64 100, .bool false] from rfl, show stampE 100 100 = 0 from rfl] at hsn
 rw [← newC_is] at hmx ⊢
 unfold psV at *
 clear h
 go_enter Tryz.func31, Tryz.ntmps31
 have z0 := r0
 have z1 := r1
 have z28 : (newC 0 0 0 false)[28]? = some (.int .i64 0) := rfl
 have z29 : (newC 0 0 0 false)[29]? = some (.int .i64 0) := rfl
 have z30 : (newC 0 0 0 false)[30]? = some (.int .i64 0) := rfl
 have z31 : (newC 0 0 0 false)[31]? = some (.bool false) := rfl
 go_wp2_with (first
  |(go_at_call 70; (with_reducible refine (hck _ hO.below).mono ?_); rintro e w1 ⟨rfl, hb1⟩; replace hO := hO.grow hb1)
  |(go_at_call 71; (with_reducible refine (hlo _ hO.below).mono ?_); rintro e w2 ⟨rfl, hb2⟩; replace hO := hO.grow hb2; replace hO := Own.new4 hO 38 #[.int .i64 0, .int .i64 50, .bool false]; have hO5 := hO.alloc 44 #[.int .i64 0, .int .i64 0, .int .i64 0, .int .i64 0, .int .i64 0, .int .i64 0, .int .i64 0, .int .i64 0, .int .i64 0, .int .i64 0, .int .i64 0, .int .i64 0, .int .i64 0, .int .u32 0, .int .u32 0, .int .u32 0, .int .u32 0, .int .i64 0, .int .u32 0, .int .u32 0, .int .u32 0, .int .u32 0, .int .u32 0, .int .u32 0, .bool false, .int .u32 0, .int .u32 0, .int .u32 0, .int .i64 0, .int .i64 0, .int .i64 0, .bool false, .int .i64 0, .bool false, .int .i64 0, .int .i64 0, .bool false, .int .i64 0, .int .i64 0, .bool false, .int .i64 0, .bool false, .slice none 0 0, .slice none 0 0, .int .i64 0, .int .i64 0, .bool false, .slice none 0 0] (w2.heap.size + 1) (by simp); simp only [List.cons_append, List.nil_append] at hO5)
  |((with_reducible refine own_loadg0 hO ?_ _ rfl rfl _ Tryz.underlying27 rfl (by kernel_rfl) ?_); (· first | rfl | (simp [Region.wanted, yielded]; done)))
  |((with_reducible refine own_loadg1 hO ?_ _ rfl rfl _ Tryz.underlying29 rfl (by kernel_rfl) ?_); (· first | rfl | (simp [Region.wanted, yielded]; done)))
  |((with_reducible refine own_loadg2 hO ?_ _ rfl rfl _ Tryz.underlying32 rfl (by kernel_rfl) ?_); (· first | rfl | (simp [Region.wanted, yielded]; done)))
  |((with_reducible refine own_loadg4 hO ?_ _ rfl rfl _ Tryz.underlying38 rfl (by kernel_rfl) ?_); (· first | rfl | (simp [Region.wanted, yielded]; done)))
  |(with_reducible refine wpList_build_is rfl 34 _ rfl peer0 (by kernel_rfl) ?_)
  |(with_reducible refine wpList_build_is rfl 44 _ rfl (newC 0 0 0 false) (by kernel_rfl) ?_)
  |((with_reducible refine own_row5 (newC 0 0 0 false) hO5 rfl _ _ rfl rfl rfl (by kernel_rfl) rfl (by kernel_rfl) ?_); intro wR hOR hszR hkR; replace hO := hOR; clear hOR hO5; have hcr := hO.b1.cell)
  |(go_at_call 72; (with_reducible refine (hsn _).mono ?_); rintro e w5 ⟨rfl, hb5⟩; replace hO := hO.grow hb5; have hcz := hO.b5.cell; have hf28 := hO.b5.frozen 28; have hf29 := hO.b5.frozen 29; have hf30 := hO.b5.frozen 30; have hf31 := hO.b5.frozen 31; have hO6 := Own.change (L1 := [_, _, _, _, _]) hO (grown4 w5 _ 28 29 30 31 (.int .i64 (-1)) (.int .i64 100) (.int .i64 100) (.bool false)) ((((hO.b5.set_ 28 _).set_ 29 _).set_ 30 _).set_ 31 _); rw [newC_set] at hO6; simp only [List.cons_append, List.nil_append] at hO6)
  |((with_reducible refine own_loadg0 hO6 ?_ _ rfl rfl _ Tryz.underlying27 rfl (by kernel_rfl) ?_); (· first | rfl | (simp [Region.wanted, yielded]; done)))
  |((with_reducible refine own_loadg5 hO6 ?_ _ rfl rfl _ Tryz.underlying44 rfl (by kernel_rfl) ?_); (· first | rfl | (simp [Region.wanted, yielded]; done)))
  |(go_at_call 19; (with_reducible refine (hmx _ hO6.below).mono ?_); rintro e w7 ⟨rfl, hb7⟩; replace hO6 := hO6.grow hb7)
  |((with_reducible refine own_row3 (newC (-1) 100 100 false) hO6 rfl _ _ rfl rfl rfl (by kernel_rfl) rfl (by kernel_rfl) ?_); intro wR hOR hszR hkR; replace hO6 := hOR; clear hOR))
 exact bodyPost_ret (results_ct1 Tryz.results31 _ _ _ _ _ _ rfl rfl hO6.b3 Tryz.underlying44 rfl (by kernel_rfl)) rfl ⟨rfl, hO6.below⟩
open Go.RowKit Go.Shelf
def peer1 : Array Value := #[.int .i64 0, .int .i64 5, .int .u32 1, .int .u32 2, .int .u32 3, .int .u32 4, .int .i64 1, .int .u32 1, .int .u32 0, .int .u32 0, .int .u32 0, .int .u32 0, .int .u32 0, .bool false, .int .u32 0, .int .u32 0]
def pdu1 : Array Value := #[.int .i64 1, .int .i64 0, .int .i64 5, .int .u32 1, .int .u32 0, .slice none 0 0, .int .u64 0]
theorem ask_set : putAt (((peer0.setIfInBounds 6 (.int .i64 1)).setIfInBounds 7 (.int .u32 1)).setIfInBounds 8 (.int .u32 0)) 9 [.int .u32 0, .int .u32 0, .int .u32 0, .int .u32 0] = peer1 := rfl
set_option maxRecDepth 8000 in
theorem train_c (w : World) : Calls Tryz.prog 137 #[.agg peer0] w fun e w' => e = .returned (.bool true) ∧ Below w.heap.size w w' := by
 have hO : Own w _ [_] := (Own.nil w).alloc 34 peer0 _ rfl
 have hcl := hO.b0.cell
 unfold peer0 at *
 go_enter Tryz.func137, Tryz.ntmps137
 go_wp2_with fail
 go_ret
 exact ⟨rfl, hO.below⟩
set_option maxRecDepth 8000 in
theorem numbered_c (w : World) : Calls Tryz.prog 138 #[.agg peer0] w fun e w' => e = .returned (.bool true) ∧ Below w.heap.size w w' := by
 have hO : Own w _ [_] := (Own.nil w).alloc 34 peer0 _ rfl
 have hcl := hO.b0.cell
 unfold peer0 at *
 go_enter Tryz.func138, Tryz.ntmps138
 go_wp2_with fail
 go_ret
 exact ⟨rfl, hO.below⟩
theorem peer1_1 : peer1[1]? = some (.int .i64 5) := rfl
set_option maxRecDepth 8000 in
set_option maxHeartbeats 4000000 in
theorem ask_c (w : World) : Calls Tryz.prog 82 #[.agg peer0, .int .u32 1] w fun e w' => e = .returned (.tuple #[.agg peer1, .agg pdu1, .int .i64 0]) ∧ Below w.heap.size w w' := by
 have ht := fun W => train_c W
 have hn := fun W => numbered_c W
 have hO : Own w _ [_, _, _] := Own.start3 w 34 34 145 peer0 #[.int .i64 0, .int .i64 0, .int .u32 0, .int .u32 0, .int .u32 0, .int .u32 0, .int .i64 0, .int .u32 0, .int .u32 0, .int .u32 0, .int .u32 0, .int .u32 0, .int .u32 0, .bool false, .int .u32 0, .int .u32 0] #[.int .i64 0, .int .i64 0, .int .i64 0, .int .u32 0, .int .u32 0, .slice none 0 0, .int .u64 0]
 go_enter Tryz.func82, Tryz.ntmps82
 go_wp2_with (first
  |((with_reducible refine own_loadg0 hO ?_ _ rfl rfl _ Tryz.underlying34 rfl (by kernel_rfl) ?_); (· first | rfl | (simp [Region.wanted, yielded]; done)))
  |(go_at_call 137; (with_reducible refine (ht _).mono ?_); rintro e w1 ⟨rfl, hb1⟩; replace hO := hO.grow hb1)
  |(go_at_call 138; (with_reducible refine (hn _).mono ?_); rintro e w2 ⟨rfl, hb2⟩; replace hO := hO.grow hb2)
  |(with_reducible refine own_cell0 6 (.int .i64 1) hO rfl _ _ _ rfl rfl rfl (by kernel_rfl) (by decide) rfl ?_; intro w31 hO31 hz31 hk31; replace hO := hO31; clear hO31 hz31 hk31)
  |(with_reducible refine own_cell0 7 (.int .u32 1) hO rfl _ _ _ rfl rfl rfl (by kernel_rfl) (by simp [peer0]) rfl ?_; intro w32 hO32 hz32 hk32; replace hO := hO32; clear hO32 hz32 hk32)
  |(with_reducible refine own_cell0 8 (.int .u32 0) hO rfl _ _ _ rfl rfl rfl (by kernel_rfl) (by simp [peer0]) rfl ?_; intro w33 hO33 hz33 hk33; replace hO := hO33; clear hO33 hz33 hk33)
  |(with_reducible refine own_mid0 9 (#[.int .u32 0, .int .u32 0, .int .u32 0, .int .u32 0]) hO rfl _ _ _ rfl rfl rfl (by kernel_rfl) (by simp [peer0]) (by simp [Value.oneCell']) ?_; intro w34 hO34 hz34 hk34; replace hO := hO34; clear hO34 hz34 hk34))
 rw [ask_set] at hO
 apply wp_region_lexs [(w.heap.size + 1, none), (w.heap.size + 1 + 1, none)]
 case hFl =>
  intro u
  simp only [List.map, fill, Act.put, List.setIfInBounds_toArray, List.set_cons_zero, List.set_cons_succ, Nat.reduceAdd, Nat.zero_add]
  rfl
 case hm => kernel_rfl
 case hB => kernel_rfl
 case hap => kernel_rfl
 refine LexS.is (c := .agg (peer1)) ?_ ?_
 ·
  (
   intro u w' hk hd
   have hbk := hk.blk hO.b0 (by intro o h; simp at h; try omega)
   refine lookedT_want (by first | rfl | simp [Region.wanted, yielded]) ?_
   intro K hK
   exact wp_load_row 34 _ rfl _ rfl 34 _ (0, 0) _ hbk Tryz.underlying34 rfl (by kernel_rfl) (hK _ _ (Stp.refl _ _) rfl))
 apply LexS.is
 ·
  (
   intro u w' hk hd
   simp [Waited, Region.binds, Is] at hd
   refine lookedT_want (by first | rfl | simp [Region.wanted, yielded, hd]) ?_
   intro K hK
   skip
   go_wp2_with (fail)
   try simp only [hd] at hK
   refine hK _ _ ?_ rfl
   first | exact Stp.refl _ _ | exact Stp.of_below hb3 _)
 apply LexS.is
 ·
  (
   intro u w' hk hd
   simp [Waited, Region.binds, Is] at hd
   refine lookedT_want (by first | rfl | simp [Region.wanted, yielded, hd]) ?_
   intro K hK
   have hcp := ((hk.blk hO.b0 (by intro o h; simp at h; try omega)).cell 1).trans peer1_1
   go_wp2_with (fail)
   try simp only [hd] at hK
   refine hK _ _ ?_ rfl
   first | exact Stp.refl _ _ | exact Stp.of_below hb3 _)
 apply LexS.is
 ·
  (
   intro u w' hk hd
   simp [Waited, Region.binds, Is] at hd
   refine lookedT_want (by first | rfl | simp [Region.wanted, yielded, hd]) ?_
   intro K hK
   skip
   go_wp2_with (fail)
   try simp only [hd] at hK
   refine hK _ _ ?_ rfl
   first | exact Stp.refl _ _ | exact Stp.of_below hb3 _)
 apply LexS.is
 ·
  (
   intro u w' hk hd
   simp [Waited, Region.binds, Is] at hd
   refine lookedT_want (by first | rfl | simp [Region.wanted, yielded, hd]) ?_
   intro K hK
   skip
   go_wp2_with (fail)
   try simp only [hd] at hK
   refine hK _ _ ?_ rfl
   first | exact Stp.refl _ _ | exact Stp.of_below hb3 _)
 refine LexS.row (w.heap.size + 1) 34 _ (peer1) (by simp) hO.b1 (by rfl) 34 _ _ rfl (by kernel_rfl) (by kernel_rfl) ?_ ?_
 ·
  (
   intro u w' hk hd
   simp [Waited, Region.binds, Is] at hd
   exact ⟨by first | rfl | simp [Region.wanted, yielded, hd], rfl, by simp [Act.eval, hd]⟩)
 refine LexS.row (w.heap.size + 1 + 1) 145 _ (#[.int .i64 1, .int .i64 0, .int .i64 5, .int .u32 1, .int .u32 0, .slice none 0 0, .int .u64 0]) (by simp) hO.b2 (by rfl) 145 _ _ rfl (by kernel_rfl) (by simp [Value.oneCell']) ?_ ?_
 ·
  (
   intro u w' hk hd
   simp [Waited, Region.binds, Is] at hd
   exact ⟨by first | rfl | simp [Region.wanted, yielded, hd], rfl, by simp [Act.eval, hd]⟩)
 apply LexS.is
 ·
  (
   intro u w' hk hd
   simp [Waited, Region.binds, Is] at hd
   refine lookedT_want (by first | rfl | simp [Region.wanted, yielded, hd]) ?_
   intro K hK
   skip
   go_wp2_with (fail)
   try simp only [hd] at hK
   refine hK _ _ ?_ rfl
   first | exact Stp.refl _ _ | exact Stp.of_below hb3 _)
 refine LexS.nil (by simp [W2.fit, Apart2]) ?_
 intro u w7 hk hd
 simp only [List.nil_append, List.cons_append] at hd
 have h5 : Blk w7 (w.heap.size + 1) 34 peer1 := hd 5 _ rfl
 have h6 : Blk w7 (w.heap.size + 1 + 1) 145 pdu1 := hd 6 _ rfl
 have h7 := hd 7 _ rfl
 simp only [Is] at h7
 clear hd
 go_wp2_with fail
 exact bodyPost_ret (results_cct Tryz.results82 _ _ _ _ _ _ _ _ _ rfl rfl h7 h5 h6 Tryz.underlying34 rfl (by kernel_rfl) Tryz.underlying145 rfl (by kernel_rfl)) rfl ⟨rfl, hO.below.trans (hk.below hO.below.size (by intro k o h; simp at h; omega))⟩
end Go.Proofs.YtkaggddmhjifjaaGreatDoor
set_option linter.unusedSimpArgs false
set_option linter.unusedVariables false
namespace Go.Proofs.YtkaggddmhjifjaaGreatDoor
def byteAt (x i : Nat) : UInt8 := UInt8.ofNat (x / 256 ^ i % 256)
def be : Nat → Nat → List UInt8
 | 0, _ => []
 | n + 1, x => byteAt x n :: be n x
def num (bs : List UInt8) : Nat := bs.foldl (fun n b => n * 256 + b.toNat) 0
theorem be_length (n x : Nat) : (be n x).length = n := by
 induction n with
 | zero => rfl
 | succ n ih => simp [be, ih]
theorem num_foldl (bs : List UInt8) : ∀ a, bs.foldl (fun n b => n * 256 + b.toNat) a = a * 256 ^ bs.length + num bs := by
 induction bs with
 | nil => intro a; simp [num]
 | cons b bs ih =>
  intro a
  simp only [num, List.foldl_cons, List.length_cons, Nat.zero_mul, Nat.zero_add]
  rw [ih, ih b.toNat, Nat.pow_succ, Nat.add_mul, Nat.mul_assoc, Nat.mul_comm 256, Nat.add_assoc]
theorem num_cons (b : UInt8) (bs : List UInt8) : num (b :: bs) = b.toNat * 256 ^ bs.length + num bs := by
 show List.foldl _ (0 * 256 + b.toNat) bs = _
 rw [num_foldl]; simp
theorem byteAt_toNat (x i : Nat) : (byteAt x i).toNat = x / 256 ^ i % 256 := by
 unfold byteAt
 rw [UInt8.toNat_ofNat']
 omega
theorem num_be (n x : Nat) : num (be n x) = x % 256 ^ n := by
 induction n with
 | zero => simp [be, num, Nat.mod_one]
 | succ n ih =>
  rw [be, num_cons, be_length, ih, byteAt_toNat]
  rw [Nat.pow_succ, Nat.mod_mul, Nat.mul_comm, Nat.add_comm]
theorem be_mod (n x : Nat) : be n (x % 256 ^ n) = be n x := by
 have key : ∀ m, m ≤ n → be m (x % 256 ^ n) = be m x := by
  intro m
  induction m with
  | zero => intro _; rfl
  | succ m ih =>
   intro hm
   simp only [be]
   rw [ih (by omega)]
   congr 1
   unfold byteAt
   congr 1
   have e : 256 ^ n = 256 ^ m * (256 * 256 ^ (n - m - 1)) := by
    rw [← Nat.mul_assoc, ← Nat.pow_succ, ← Nat.pow_add]
    congr 1; omega
   rw [e, Nat.mod_mul_right_div_self, Nat.mod_mul_right_mod]
 exact key n (Nat.le_refl _)
theorem be_inj {n x y : Nat} (hx : x < 256 ^ n) (hy : y < 256 ^ n) (h : be n x = be n y) : x = y := by
 have := congrArg num h
 rw [num_be, num_be, Nat.mod_eq_of_lt hx, Nat.mod_eq_of_lt hy] at this
 exact this
theorem be_add (m n x : Nat) : be (m + n) x = be m (x / 256 ^ n) ++ be n x := by
 induction m with
 | zero => simp [be]
 | succ m ih =>
  rw [show m + 1 + n = (m + n) + 1 by omega]
  simp only [be, List.cons_append, ih]
  congr 1
  unfold byteAt
  rw [Nat.div_div_eq_div_mul, ← Nat.pow_add, Nat.add_comm n m]
structure P7 where
 kind : Int
 dir : Int
 train : Int
 a : BitVec 32
 b : BitVec 32
 body : List UInt8
 mac : BitVec 64
deriving DecidableEq
def MayP (p : P7) : Prop :=
 0 ≤ p.train ∧ p.train < 16777216 ∧ 0 ≤ p.dir ∧ p.dir ≤ 1 ∧
 (
  (p.kind = 1 ∧ p.dir = 0 ∧ p.b = 0 ∧ p.mac = 0 ∧ p.body.length = 0) ∨ (p.kind = 2 ∧ p.dir = 1 ∧ p.body.length = 0) ∨ (p.kind = 3 ∧ p.dir = 0 ∧ p.body.length = 0) ∨
  (p.kind = 5 ∧ p.a = 0 ∧ 1 ≤ p.body.length ∧ p.body.length ≤ 1023) ∨ (p.kind = 6 ∧ p.a = 0 ∧ p.body.length = 1))
instance (p : P7) : Decidable (MayP p) := by unfold MayP; infer_instance
def may (p : P7) : Bool := decide (MayP p)
theorem may_iff {p : P7} : may p = true ↔ MayP p := by simp [may]
def textB (p : P7) : List UInt8 :=
 be 1 (2 * p.kind + p.dir).toNat ++ be 3 p.train.toNat ++ (if p.kind ≤ 3 then be 4 p.a.toNat else []) ++ (if 2 ≤ p.kind then be 4 p.b.toNat else []) ++ (if p.kind = 5 then be 2 p.body.length else []) ++ p.body
def text (p : P7) : List UInt8 := if may p then textB p else []
def enc (p : P7) : List UInt8 := if may p then textB p ++ (if 1 < p.kind then be 8 p.mac.toNat else []) else []
def right7 (k : K4) (p : P7) : Bool := may p && decide (p.kind ≠ 1) && (Mac k (text p) == p.mac)
theorem nth_set_self (l : List UInt8) (i : Nat) (x : UInt8) (hi : i < l.length) : nth (l.set i x) i = x := by
 simp [nth, List.getD_eq_getElem?_getD, hi]
theorem nth_set_ne (l : List UInt8) (i j : Nat) (x : UInt8) (h : i ≠ j) : nth (l.set i x) j = nth l j := by
 simp [nth, List.getD_eq_getElem?_getD, List.getElem?_set_ne h]
theorem turned (k : K4) (s q : P7) (hs : right7 k s = true) (hq : right7 k q = true) (i : Nat) (x : UInt8) (hi : i < (enc s).length) (hx : x ≠ nth (enc s) i) : enc q ≠ (enc s).set i x := by
 intro h
 simp only [right7, Bool.and_eq_true, decide_eq_true_eq, beq_iff_eq] at hs hq
 obtain ⟨⟨s1, s2⟩, s3⟩ := hs
 obtain ⟨⟨q1, q2⟩, q3⟩ := hq
 have hk : ∀ p : P7, may p = true → p.kind ≠ 1 → enc p = textB p ++ be 8 p.mac.toNat ∧ text p = textB p := by
  intro p hp h1
  have hm := may_iff.1 hp
  have : 1 < p.kind := by unfold MayP at hm; omega
  exact ⟨by simp [enc, hp, this], by simp [text, hp]⟩
 obtain ⟨es, ts⟩ := hk s s1 s2
 obtain ⟨eq, tq⟩ := hk q q1 q2
 rw [ts] at s3
 rw [tq] at q3
 have hlen : (textB q).length = (textB s).length := by
  have := congrArg List.length h
  rw [List.length_set, es, eq] at this
  simp [be_length] at this
  exact this
 have same : textB q = textB s ∧ q.mac = s.mac := by
  by_cases hlt : i < (textB s).length
  ·
   have h1 : textB q ++ be 8 q.mac.toNat = (textB s).set i x ++ be 8 s.mac.toNat := by
    rw [← eq, h, es, List.set_append_left _ _ hlt]
   obtain ⟨h2, h3⟩ := List.append_inj h1 (by simpa using hlen)
   have hm : q.mac = s.mac := BitVec.eq_of_toNat_eq (be_inj (by have := q.mac.isLt; simpa using this) (by have := s.mac.isLt; simpa using this) h3)
   refine ⟨?_, hm⟩
   have hM : Mac k (textB q) = Mac k (textB s) := by rw [q3, s3, hm]
   refine (mac_turned k (textB q) (textB s) hlen (i / 8) ?_).1 hM
   intro j hj
   rw [h2]
   exact nth_set_ne _ _ _ _ (by intro e; subst e; exact hj rfl)
  ·
   have h1 : textB q ++ be 8 q.mac.toNat = textB s ++ (be 8 s.mac.toNat).set (i - (textB s).length) x := by
    rw [← eq, h, es, List.set_append_right _ _ (by omega)]
   obtain ⟨h2, _⟩ := List.append_inj h1 hlen
   exact ⟨h2, by rw [← q3, ← s3, h2]⟩
 have e : enc q = enc s := by rw [eq, es, same.1, same.2]
 rw [e] at h
 have := nth_set_self (enc s) i x hi
 rw [← h] at this
 exact hx this.symm
open Go.RowKit
open Go.RowKit Go.Shelf
attribute [local go_sem] Oper.semAt_some
theorem all_ones (a : BitVec 64) : BitVec.ofInt 64 18446744073709551615 ^^^ a = ~~~ a := by
 have : BitVec.ofInt 64 18446744073709551615 = BitVec.allOnes 64 := by decide
 rw [this, BitVec.allOnes_xor]
@[go_sem] theorem unary_xor_q64 (a : BitVec 64) : Op.unary .xor (q64 a) = pure (q64 (~~~ a)) := by
 have h : Op.unary .xor (q64 a) = binOp .xor 0 (q64 (BitVec.ofInt 64 18446744073709551615)) (q64 a) := rfl
 rw [h, q64_xor, all_ones]
def KeepAt (n₀ Bs : Nat) (W W' : World) : Prop := ∀ b, b < n₀ ∨ b = Bs → W'.heap[b]? = W.heap[b]?
theorem KeepAt.refl (n₀ Bs : Nat) (W : World) : KeepAt n₀ Bs W W := fun _ _ => rfl
theorem KeepAt.trans {n₀ Bs : Nat} {X Y Z : World} (h : KeepAt n₀ Bs X Y) (k : KeepAt n₀ Bs Y Z) : KeepAt n₀ Bs X Z := fun b hb => (k b hb).trans (h b hb)
theorem KeepAt.cell {n₀ Bs : Nat} {X Y : World} (h : KeepAt n₀ Bs X Y) {b o : Nat} (hb : b < n₀ ∨ b = Bs) : Y.cell? ⟨b, o, none⟩ = X.cell? ⟨b, o, none⟩ := World.cell?_of_block (a := ⟨b, o, none⟩) (h b hb)
theorem KeepAt.of_below {n₀ Bs B : Nat} {W W' : World} (h : Below B W W') (h1 : n₀ ≤ B) (h2 : Bs < B) : KeepAt n₀ Bs W W' := fun b hb => h.block b (by omega)
theorem KeepAt.setCell {n₀ Bs : Nat} {W : World} {p : Addr} (h1 : n₀ ≤ p.block) (h2 : Bs ≠ p.block) (u : Value) : KeepAt n₀ Bs W (W.setCell p u) := fun b hb => Below.heap_setCell W p u b (by omega)
end Go.Proofs.YtkaggddmhjifjaaGreatDoor
namespace Go.Proofs.YtkaggddmhjifjaaGreatDoor
open Go.RowKit
def OwnB (w : World) (base : Nat) (A : Option Addr) (c : Nat) (bs : List UInt8) : Prop := w.ownsRow base 5 1 (.slice A bs.length c) bs.length (cellsOf bs)
def rowOf (A : Option Addr) : Option Nat := A.map (·.block)
section
variable {w w' : World} {base : Nat} {A : Option Addr} {c : Nat} {bs : List UInt8}
theorem OwnB.nil (w : World) (base : Nat) : OwnB w base none 0 [] := World.ownsRow_nil w base _ 1
theorem OwnB.bytes (h : OwnB w base A c bs) : Bytes w A c bs := by
 rcases h.2 with ⟨h', _⟩ | ⟨g', cap', cur, h', _⟩
 ·
  simp only [Value.slice.injEq] at h'
  obtain ⟨rfl, h0, rfl⟩ := h'
  rw [List.eq_nil_of_length_eq_zero h0]
  exact Bytes.nil _
 ·
  simp only [Value.slice.injEq] at h'
  obtain ⟨rfl, _, rfl⟩ := h'
  exact Bytes.own h
theorem OwnB.below (h : OwnB w base A c bs) (hb : Below w.heap.size w w') : OwnB w' base A c bs := own_below h hb
theorem OwnB.alloc (h : OwnB w base A c bs) (o : Obj) : OwnB (w.alloc o) base A c bs := World.ownsRow.alloc h o
theorem OwnB.drew (h : OwnB w base A c bs) : OwnB w.drew base A c bs := h
theorem OwnB.drewN (h : OwnB w base A c bs) (n : Nat) : OwnB (w.drewN n) base A c bs := h
theorem ownBlock_slice (A : Option Addr) (n c : Nat) : (Value.slice A n c).ownBlock = rowOf A := by cases A <;> rfl
theorem OwnB.row_ge (h : OwnB w base A c bs) : ∀ g, rowOf A = some g → base ≤ g ∧ g < w.heap.size := by
 have := World.ownsRow.lt h
 rw [ownBlock_slice] at this
 exact this
theorem OwnB.addr (h : OwnB w base A c bs) (hn : 0 < bs.length) : ∃ g, A = some ⟨g, 0, none⟩ ∧ base ≤ g ∧ g < w.heap.size := by
 obtain ⟨g, cap, e, h1, h2⟩ := World.ownsRow.form h hn
 simp only [Value.slice.injEq] at e
 exact ⟨g, e.1, h1, h2⟩
theorem OwnB.stored {g : Nat} (h : OwnB w base (some ⟨g, 0, none⟩) c bs) (k : Nat) (x : UInt8) :
  OwnB (w.setCell ⟨g, k, none⟩ (q8 x)) base (some ⟨g, 0, none⟩) c (bs.set k x) := by
 have := (World.ownsRow.stored h k (q8 x)).1
 unfold OwnB
 rw [List.length_set, show cellsOf (bs.set k x) = (cellsOf bs).set k (q8 x) by simp [cellsOf, List.map_set]]
 exact this
end
section
variable {P : Program} {w : World}
end
end Go.Proofs.YtkaggddmhjifjaaGreatDoor
namespace Go.Proofs.YtkaggddmhjifjaaGreatDoor
open Go.RowKit
def strOf (bs : List UInt8) : ByteArray := ⟨bs.toArray⟩
@[go_sem] theorem strOf_toList (a : List UInt8) : (strOf a).toList = a := by simp [strOf]
open Go.RowKit
def NewBytes (base : Nat) (bs : List UInt8) : Value → World → Prop := fun v w => ∃ A c, v = .slice A bs.length c ∧ Bytes w A c bs ∧
 (0 < bs.length → ∃ g, A = some ⟨g, 0, none⟩ ∧ base ≤ g ∧ g < w.heap.size ∧ ∀ i, i < bs.length → w.frozen? ⟨g, i, none⟩ = false)
theorem NewBytes.is {base : Nat} {bs : List UInt8} {v : Value} {w : World} (h : NewBytes base bs v w) : IsBytes bs v w := by
 obtain ⟨A, c, e, hB, _⟩ := h
 exact ⟨A, c, e, hB⟩
theorem NewBytes.grow {base : Nat} {bs : List UInt8} {v : Value} {w w' : World} (h : NewBytes base bs v w) (hb : Below w.heap.size w w') : NewBytes base bs v w' := by
 obtain ⟨A, c, e, hB, hf⟩ := h
 refine ⟨A, c, e, hB.below hb, fun h0 => ?_⟩
 obtain ⟨g, h1, h2, h3, h4⟩ := hf h0
 exact ⟨g, h1, h2, Nat.lt_of_lt_of_le h3 hb.size, fun i hi => (hb.frozen (p := ⟨g, i, none⟩) h3).trans (h4 i hi)⟩
theorem NewBytes.mono {base base' : Nat} {bs : List UInt8} {v : Value} {w : World} (h : NewBytes base bs v w) (hb : base' ≤ base) : NewBytes base' bs v w := by
 obtain ⟨A, c, e, hB, hf⟩ := h
 refine ⟨A, c, e, hB, fun h0 => ?_⟩
 obtain ⟨g, h1, h2, h3, h4⟩ := hf h0
 exact ⟨g, h1, by omega, h3, h4⟩
theorem NewBytes.own {w : World} {base : Nat} {A : Option Addr} {c : Nat} {bs : List UInt8} (h : OwnB w base A c bs) : NewBytes base bs (.slice A bs.length c) w := by
 refine ⟨A, c, rfl, h.bytes, fun h0 => ?_⟩
 obtain ⟨g, rfl, h1, h2⟩ := h.addr h0
 exact ⟨g, rfl, h1, h2, fun i _ => World.ownsRow.frozenAt h i⟩
end Go.Proofs.YtkaggddmhjifjaaGreatDoor
