/- Texts in one: Line Walk Locate New Ask. -/
import Derived.Test.YtpjdcpicfkdioaaGreatDoorK26
import Derived.WalkMore
import Derived.Scope
set_option linter.unusedSimpArgs false
set_option linter.unusedVariables false
/- The chapter's track, as it is made. -/
namespace Go.Proofs.YtpjdcpicfkdioaaGreatDoor
open Go.RowKit Go.Shelf

theorem rows_blk {α : Type} {E : Laid α} {w : World} {g : Nat} {t : TypeId} {cs : Array Value} {xs : List α} (h : Blk w g t cs) (he : cs.toList = E.flat xs) : RowsAt E w (some ⟨g, 0, none⟩) xs := fun _ => ⟨g, 0, rfl, h.lt, fun j u hu => by
  rw [Nat.zero_add, h.cell, ← Array.getElem?_toList, he]
  exact hu⟩
set_option maxRecDepth 8000 in
set_option maxHeartbeats 8000000 in
theorem line_k (w : World) : Calls Tryz.prog 11 #[] w fun e w' => ∃ m : TpM, e = .returned (.agg m.cells) ∧ TpIs w' line16 m ∧ Below w.heap.size w w' := by
  go_enter Tryz.func11, Tryz.ntmps11
  go_wp2_with fail
  have hO := ((Own.start5 w 27 3 94 96 98 #[.slice (some ⟨w.heap.size + 1, 0, none⟩) 3 3, .slice (some ⟨w.heap.size + 1 + 1, 0, none⟩) 2 2, .slice (some ⟨w.heap.size + 1 + 1 + 1, 0, none⟩) 3 3, .slice (some ⟨w.heap.size + 1 + 1 + 1 + 1 + 1 + 1, 0, none⟩) 2 2] #[.int .i64 100, .int .i64 200, .int .i64 300] #[.int .i64 0, .int .i64 1, .int .i64 1, .int .i64 0, .int .i64 1, .int .i64 1, .int .i64 2, .int .i64 0] #[.int .i64 7, .int .i64 0, .int .i64 10, .int .i64 8, .int .i64 1, .int .i64 20, .int .i64 9, .int .i64 2, .int .i64 30] #[.int .i64 0, .bool false, .int .i64 1, .bool false]).alloc 98 #[.int .i64 1, .bool false, .int .i64 2, .bool false] (w.heap.size + 1 + 1 + 1 + 1 + 1) (by simp)).alloc 100 #[.int .i64 1, .slice (some ⟨w.heap.size + 1 + 1 + 1 + 1, 0, none⟩) 2 2, .int .i64 0, .int .i64 30, .int .i64 2, .slice (some ⟨w.heap.size + 1 + 1 + 1 + 1 + 1, 0, none⟩) 2 2, .int .i64 50, .int .i64 20] (w.heap.size + 1 + 1 + 1 + 1 + 1 + 1) (by simp)
  simp only [List.cons_append, List.nil_append] at hO
  refine bodyPost_ret (results_cell_row Tryz.results11 _ _ _ _ _ _ _ rfl hO.b0 Tryz.underlying27 rfl (by kernel_rfl)) rfl ⟨⟨some ⟨w.heap.size + 1, 0, none⟩, 3, 3, some ⟨w.heap.size + 1 + 1, 0, none⟩, 2, 2, some ⟨w.heap.size + 1 + 1 + 1, 0, none⟩, 3, 3, some ⟨w.heap.size + 1 + 1 + 1 + 1 + 1 + 1, 0, none⟩, 2, 2, [(⟨1, [⟨0, false⟩, ⟨1, false⟩], 0, 30⟩, some ⟨w.heap.size + 1 + 1 + 1 + 1, 0, none⟩, 2), (⟨2, [⟨1, false⟩, ⟨2, false⟩], 50, 20⟩, some ⟨w.heap.size + 1 + 1 + 1 + 1 + 1, 0, none⟩, 2)]⟩, rfl, ⟨⟨rows_blk hO.b1 rfl, rows_blk hO.b2 rfl, rows_blk hO.b3 rfl, rows_blk hO.b6 rfl, rfl, ?_⟩, rfl, rfl, rfl, rfl, by simp, by simp, by simp, by simp, by decide, by simp, by simp, by simp, by simp, ?_⟩, hO.below⟩
  · intro p hp
    simp only [List.mem_cons, List.not_mem_nil, or_false] at hp
    rcases hp with rfl | rfl
    · exact rows_blk hO.b4 rfl
    · exact rows_blk hO.b5 rfl
  · intro p hp
    simp only [List.mem_cons, List.not_mem_nil, or_false] at hp
    rcases hp with rfl | rfl <;> simp
end Go.Proofs.YtpjdcpicfkdioaaGreatDoor
/- place.Walk and place.Locate, at the chapter's example. -/
namespace Go.Proofs.YtpjdcpicfkdioaaGreatDoor
open Go.RowKit Go.Shelf

set_option maxRecDepth 8000 in
set_option maxHeartbeats 8000000 in
theorem walk_c {w : World} {m : TpM} (h : TpIs w line16 m) : Calls Tryz.prog 118 #[.agg m.cells, psV ⟨0, 10, false⟩, .int .i64 40] w fun e w' => e = .returned (.tuple #[psV ⟨0, 50, false⟩, .int .i64 0]) ∧ Below w.heap.size w w' := by
  have hO : Own w _ [_, _, _] := Own.start3 w 27 38 38 m.cells #[.int .i64 0, .int .i64 10, .bool false] #[.int .i64 0, .int .i64 0, .bool false]
  have hcl := hO.b0.cell
  have hcx := hO.b1.cell
  have hri := fun W (hW : Below w.heap.size w W) => right_m (h.below hW) ⟨0, 10, false⟩
  have hal := fun W (hW : Below w.heap.size w W) => along_m (h.below hW) ⟨0, 10, false⟩ (by decide +kernel)
  have hov := fun W (hW : Below w.heap.size w W) => over_m (h.below hW) ⟨0, false⟩ 50 (by decide +kernel) (by decide +kernel) (by decide) (by decide)
  rw [show rightT line16 ⟨0, 10, false⟩ = true by decide +kernel] at hri
  rw [show alongT line16 ⟨0, 10, false⟩ = 10 by decide +kernel] at hal
  rw [show overT line16 ⟨0, false⟩ 50 = ⟨0, 50, false⟩ from rfl] at hov
  obtain ⟨i, ev, ge, offe, hi, hin, hie, hA1, hke, hev⟩ := edge_at h (show thereT line16 0 = true by decide +kernel)
  rw [show edgeT line16 0 = 100 by decide +kernel] at hie
  obtain rfl : i = 0 := by omega
  subst hie
  have hq1 := h.q1
  simp only [Nat.add_zero] at hke
  unfold psV stV at *
  simp only [TpM.cells, hA1] at hO hcl hcx hri hal hov ⊢
  clear hi hev h
  go_enter Tryz.func118, Tryz.ntmps118
  go_wp2_with fail
  go_step3
  go_wp2_with (first
    | (go_at_call 35; (with_reducible refine (hri _ hO.below).mono ?_); rintro e w1 ⟨rfl, hb1⟩; replace hO := hO.grow hb1; have hsz1 : w.heap.size + 1 + 1 + 1 ≤ w1.heap.size := hO.b2.lt; have hcx1 := hO.b1.cell; replace hO := Own.new3 hO 98 #[.int .i64 0, .bool false]; have hcl1 := hO.b0.cell; have hcx3 := hO.b1.cell)
    | (go_at_call 105; (with_reducible refine (hal _ hO.below).mono ?_); rintro e w2 ⟨rfl, hb2⟩; replace hO := hO.grow hb2; have hw1 : w.heap.size + 1 + 1 + 1 ≤ w1.heap.size := hsz1; have hcl2 := hO.b0.cell; have hcx2 := hO.b1.cell))
  go_step3
  go_wp2_with fail
  obtain ⟨g3, hg3⟩ : ∃ g, g = w1.heap.size := ⟨_, rfl⟩
  rw [← hg3] at hO ⊢
  clear hg3
  go_loopw [2, 9] (fun s s9 wr => s = .int .i64 50 ∧ s9 = .int .i64 0 ∧ Own w wr [(w.heap.size, 27, #[.slice (some ⟨ge, offe, none⟩) m.n1 m.c1, .slice m.A2 m.n2 m.c2, .slice m.A3 m.n3 m.c3, .slice m.A4 m.n4 m.c4]), (w.heap.size + 1, 38, #[.int .i64 0, .int .i64 10, .bool false]), (w.heap.size + 1 + 1, 38, #[.int .i64 0, .int .i64 0, .bool false]), (g3, 98, #[.int .i64 0, .bool false])]) (fun _ _ _ => 0)
  case atStart =>
    exact ⟨rfl, rfl, hO⟩
  case round =>
    clear hO
    obtain ⟨rfl, rfl, hO⟩ := hrel
    have hcl3 := hO.b0.cell
    have hcs3 := hO.b3.cell
    have ke := hke _ hO.below
    go_wp2_with (first
      | (go_at_call 104; (with_reducible refine (hov _ hO.below).mono ?_); rintro e w4 ⟨rfl, hb4⟩; replace hO := hO.grow hb4; have hcz := hO.b2.cell; have hf0 := hO.b2.frozen 0; have hf1 := hO.b2.frozen 1; have hf2 := hO.b2.frozen 2))
    rw [Exit.noGoto_ret]
    have hbz := ((hO.b2.set_ 0 (.int .i64 0)).set_ 1 (.int .i64 50)).set_ 2 (.bool false)
    have hlo : w.heap.size ≤ w.heap.size + 1 + 1 := by omega
    exact bodyPost_ret (results_ct1 Tryz.results118 _ _ _ _ _ _ rfl rfl hbz Tryz.underlying38 rfl (by kernel_rfl)) rfl ⟨rfl, ((hO.below.setCell (p := ⟨w.heap.size + 1 + 1, 0, none⟩) hlo _).setCell (p := ⟨w.heap.size + 1 + 1, 1, none⟩) hlo _).setCell (p := ⟨w.heap.size + 1 + 1, 2, none⟩) hlo _⟩
end Go.Proofs.YtpjdcpicfkdioaaGreatDoor
/- place.Locate, at the chapter's example. -/
namespace Go.Proofs.YtpjdcpicfkdioaaGreatDoor
open Go.RowKit Go.Shelf

set_option maxRecDepth 8000 in
set_option maxHeartbeats 8000000 in
theorem locate_c {w : World} {m : TpM} (h : TpIs w line16 m) : Calls Tryz.prog 69 #[.agg m.cells, .int .i64 7, .bool false, .int .i64 40] w fun e w' => e = .returned (.tuple #[psV ⟨0, 50, false⟩, .int .i64 0]) ∧ Below w.heap.size w w' := by
  have hO : Own w _ [_, _] := Own.start2 w 27 38 m.cells #[.int .i64 0, .int .i64 0, .bool false]
  have hcl := hO.b0.cell
  have hck := fun W (hW : Below w.heap.size w W) => check_m (h.below hW)
  have hba := fun W (hW : Below w.heap.size w W) => bal_m (h.below hW) 7
  have hwa := fun W (hW : Below w.heap.size w W) => walk_c (h.below hW)
  rw [show checkT line16 = 0 by decide +kernel] at hck
  rw [show balT line16 7 = some ⟨7, 0, 10⟩ from rfl] at hba
  simp only [Option.getD_some, Option.isSome_some] at hba
  unfold psV at *
  unfold TpM.cells at *
  clear h
  go_enter Tryz.func69, Tryz.ntmps69
  go_wp2_with (first
    | (go_at_call 68; (with_reducible refine (hck _ hO.below).mono ?_); rintro e w1 ⟨rfl, hb1⟩; replace hO := hO.grow hb1; have hcl1 := hO.b0.cell)
    | (go_at_call 37; (with_reducible refine (hba _ hO.below).mono ?_); rintro e w2 ⟨rfl, hb2⟩; replace hO := hO.grow hb2; replace hO := Own.new2 hO 96 #[.int .i64 7, .int .i64 0, .int .i64 10]; have hcl2 := hO.b0.cell; have hcb2 := hO.b2.cell)
    | (go_at_call 118; (with_reducible refine (hwa _ hO.below).mono ?_); rintro e w4 ⟨rfl, hb4⟩; replace hO := hO.grow hb4; have hcz := hO.b1.cell; have hf0 := hO.b1.frozen 0; have hf1 := hO.b1.frozen 1; have hf2 := hO.b1.frozen 2))
  have hbz := ((hO.b1.set_ 0 (.int .i64 0)).set_ 1 (.int .i64 50)).set_ 2 (.bool false)
  have hlo : w.heap.size ≤ w.heap.size + 1 := by omega
  exact bodyPost_ret (results_ct1 Tryz.results69 _ _ _ _ _ _ rfl rfl hbz Tryz.underlying38 rfl (by kernel_rfl)) rfl ⟨rfl, ((hO.below.setCell (p := ⟨w.heap.size + 1, 0, none⟩) hlo _).setCell (p := ⟨w.heap.size + 1, 1, none⟩) hlo _).setCell (p := ⟨w.heap.size + 1, 2, none⟩) hlo _⟩
end Go.Proofs.YtpjdcpicfkdioaaGreatDoor
/- onboard.New, at the chapter's example. -/
namespace Go.Proofs.YtpjdcpicfkdioaaGreatDoor
open Go.RowKit Go.Shelf

def rulesC : Array Value := #[.int .i64 100, .int .i64 100, .int .i64 10, .int .i64 2, .int .i64 50, .int .i64 70, .int .i64 20, .int .i64 0, .int .i64 0]
theorem rules19_k (w : World) : Calls Tryz.prog 30 #[] w fun e w' => e = .returned (.agg rulesC) ∧ Below w.heap.size w w' := by
  have hO : Own w _ [_] := (Own.nil w).alloc 29 rulesC _ rfl
  unfold rulesC at *
  go_enter Tryz.func30, Tryz.ntmps30
  go_wp2_with fail
  exact bodyPost_ret (results_cell_row Tryz.results30 _ _ _ _ _ _ _ rfl hO.b0 Tryz.underlying29 rfl (by kernel_rfl)) rfl ⟨rfl, hO.below⟩
/-- The example's train before it has an authority. -/
def new19 : Tr := ⟨5, 400, rules19, 0, 5, -1, 100, 100, false, -1, false, ⟨0, 50, false⟩, 7, 40, false, ⟨0, false, [], [], 0⟩, 0, false, []⟩
def q19 : Pr19 := ⟨1, 2, 3, 4, 0, 0, 0, 0, 0, 0, 0, false, 0, 0⟩
def newM : TrM := ⟨q19, 1, ⟨none, 0, 0, none, 0, 0⟩, none, 0, 0⟩
def newC (a b c : Int) (d : Bool) : Array Value := #[.int .i64 5, .int .i64 400, .int .i64 100, .int .i64 100, .int .i64 10, .int .i64 2, .int .i64 50, .int .i64 70, .int .i64 20, .int .i64 0, .int .i64 0, .int .i64 0, .int .i64 5, .int .u32 1, .int .u32 2, .int .u32 3, .int .u32 4, .int .i64 0, .int .u32 0, .int .u32 0, .int .u32 0, .int .u32 0, .int .u32 0, .int .u32 0, .bool false, .int .u32 0, .int .u32 0, .int .u32 1, .int .i64 a, .int .i64 b, .int .i64 c, .bool d, .int .i64 (-1), .bool false, .int .i64 0, .int .i64 50, .bool false, .int .i64 7, .int .i64 40, .bool false, .int .i64 0, .bool false, .slice none 0 0, .slice none 0 0, .int .i64 0, .int .i64 0, .bool false, .slice none 0 0]
theorem newC_is : newC (-1) 100 100 false = trC new19 newM := rfl
theorem new19_is (w : World) : TrIs w new19 newM := ⟨⟨RowsAt.nil _ _, RowsAt.nil _ _, rfl, rfl, by decide, by decide, by decide, by decide⟩, RowsAt.nil _ _, rfl, by decide, by decide⟩
theorem wpList_build_is {P : Program} {W : World} {ops : Array Oper} {rest : List Oper} {o : Oper} {a : Act} {Q : Exit → Act → World → Prop} (hgd : o.guard = none) (t : TypeId) (parts : Array (Nat × Operand)) (ho : o.op = .build t parts) (cs : Array Value) (hc : P.built t (parts.map fun (i, x) => (i, a.eval x)).toList = some cs)
    (h : wpList P ops Q rest (a.put o.dst (.agg cs)) W) : wpList P ops Q (o :: rest) a W :=
  wpList_plain hgd fun K hK => wp_build t parts ho (by rw [hc]; rfl) (by rw [hc]; exact hK _ _ h)
def peer0 : Array Value := #[.int .i64 0, .int .i64 5, .int .u32 1, .int .u32 2, .int .u32 3, .int .u32 4, .int .i64 0, .int .u32 0, .int .u32 0, .int .u32 0, .int .u32 0, .int .u32 0, .int .u32 0, .bool false, .int .u32 0, .int .u32 0]
theorem r0 : rulesC[0]? = some (.int .i64 100) := rfl
theorem r1 : rulesC[1]? = some (.int .i64 100) := rfl
theorem newC_set : ((((newC 0 0 0 false).setIfInBounds 28 (.int .i64 (-1))).setIfInBounds 29 (.int .i64 100)).setIfInBounds 30 (.int .i64 100)).setIfInBounds 31 (.bool false) = newC (-1) 100 100 false := rfl
theorem grown4 (w : World) (g a b c d : Nat) (x y z v : Value) : w.grownBy ((((w.setCell ⟨g, a, none⟩ x).setCell ⟨g, b, none⟩ y).setCell ⟨g, c, none⟩ z).setCell ⟨g, d, none⟩ v) (some g) := by
  have one : ∀ (w : World) (i : Nat) (x : Value), w.grownBy (w.setCell ⟨g, i, none⟩ x) (some g) := fun w i x => ⟨rfl, rfl, rfl, by simp [World.setCell], fun k _ hne => Below.heap_setCell w ⟨g, i, none⟩ x k (fun e => hne (by rw [e]))⟩
  exact grownBy_trans (grownBy_trans (grownBy_trans (one _ _ _) (one _ _ _)) (one _ _ _)) (one _ _ _)
set_option maxRecDepth 8000 in
set_option maxHeartbeats 8000000 in
theorem new_c {w : World} {m : TpM} (h : TpIs w line16 m) : Calls Tryz.prog 29 #[.agg m.cells, .agg rulesC, .int .i64 5, .int .i64 400, .agg #[.int .u32 1, .int .u32 2, .int .u32 3, .int .u32 4], .int .i64 7, .bool false, .int .i64 40] w fun e w' => e = .returned (.tuple #[.agg (trC new19 newM), .int .i64 0]) ∧ Below w.heap.size w w' := by
  have hO : Own w _ [_, _, _, _] := Own.start4 w 27 29 32 44 m.cells rulesC #[.int .u32 1, .int .u32 2, .int .u32 3, .int .u32 4] zeroTr
  unfold zeroTr at hO
  have hck := fun W (hW : Below w.heap.size w W) => check_m (h.below hW)
  have hlo := fun W (hW : Below w.heap.size w W) => locate_c (h.below hW)
  have hsn := fun W => snew_k 100 100 W
  have hmx := fun W (hW : Below w.heap.size w W) => mayX_m (h.below hW) new19 newM (new19_is W)
  rw [show checkT line16 = 0 by decide +kernel] at hck
  rw [show mayX line16 new19 = true by decide +kernel] at hmx
  rw [show stampN 100 100 = #[.int .i64 (-1), .int .i64 100, .int .i64 100, .bool false] from rfl, show stampE 100 100 = 0 from rfl] at hsn
  rw [← newC_is] at hmx ⊢
  unfold psV at *
  clear h
  go_enter Tryz.func29, Tryz.ntmps29
  have z0 := r0
  have z1 := r1
  have z28 : (newC 0 0 0 false)[28]? = some (.int .i64 0) := rfl
  have z29 : (newC 0 0 0 false)[29]? = some (.int .i64 0) := rfl
  have z30 : (newC 0 0 0 false)[30]? = some (.int .i64 0) := rfl
  have z31 : (newC 0 0 0 false)[31]? = some (.bool false) := rfl
  go_wp2_with (first
    | (go_at_call 68; (with_reducible refine (hck _ hO.below).mono ?_); rintro e w1 ⟨rfl, hb1⟩; replace hO := hO.grow hb1)
    | (go_at_call 69; (with_reducible refine (hlo _ hO.below).mono ?_); rintro e w2 ⟨rfl, hb2⟩; replace hO := hO.grow hb2; replace hO := Own.new4 hO 38 #[.int .i64 0, .int .i64 50, .bool false]; have hO5 := hO.alloc 44 #[.int .i64 0, .int .i64 0, .int .i64 0, .int .i64 0, .int .i64 0, .int .i64 0, .int .i64 0, .int .i64 0, .int .i64 0, .int .i64 0, .int .i64 0, .int .i64 0, .int .i64 0, .int .u32 0, .int .u32 0, .int .u32 0, .int .u32 0, .int .i64 0, .int .u32 0, .int .u32 0, .int .u32 0, .int .u32 0, .int .u32 0, .int .u32 0, .bool false, .int .u32 0, .int .u32 0, .int .u32 0, .int .i64 0, .int .i64 0, .int .i64 0, .bool false, .int .i64 0, .bool false, .int .i64 0, .int .i64 0, .bool false, .int .i64 0, .int .i64 0, .bool false, .int .i64 0, .bool false, .slice none 0 0, .slice none 0 0, .int .i64 0, .int .i64 0, .bool false, .slice none 0 0] (w2.heap.size + 1) (by simp); simp only [List.cons_append, List.nil_append] at hO5)
    | ((with_reducible refine own_loadg0 hO ?_ _ rfl rfl _ Tryz.underlying27 rfl (by kernel_rfl) ?_); (· first | rfl | (simp [Region.wanted, yielded]; done)))
    | ((with_reducible refine own_loadg1 hO ?_ _ rfl rfl _ Tryz.underlying29 rfl (by kernel_rfl) ?_); (· first | rfl | (simp [Region.wanted, yielded]; done)))
    | ((with_reducible refine own_loadg2 hO ?_ _ rfl rfl _ Tryz.underlying32 rfl (by kernel_rfl) ?_); (· first | rfl | (simp [Region.wanted, yielded]; done)))
    | ((with_reducible refine own_loadg4 hO ?_ _ rfl rfl _ Tryz.underlying38 rfl (by kernel_rfl) ?_); (· first | rfl | (simp [Region.wanted, yielded]; done)))
    | (with_reducible refine wpList_build_is rfl 34 _ rfl peer0 (by kernel_rfl) ?_)
    | (with_reducible refine wpList_build_is rfl 44 _ rfl (newC 0 0 0 false) (by kernel_rfl) ?_)
    | ((with_reducible refine own_row5 (newC 0 0 0 false) hO5 rfl _ _ rfl rfl rfl (by kernel_rfl) rfl (by kernel_rfl) ?_); intro wR hOR hszR hkR; replace hO := hOR; clear hOR hO5; have hcr := hO.b1.cell)
    | (go_at_call 70; (with_reducible refine (hsn _).mono ?_); rintro e w5 ⟨rfl, hb5⟩; replace hO := hO.grow hb5; have hcz := hO.b5.cell; have hf28 := hO.b5.frozen 28; have hf29 := hO.b5.frozen 29; have hf30 := hO.b5.frozen 30; have hf31 := hO.b5.frozen 31; have hO6 := Own.change (L1 := [_, _, _, _, _]) hO (grown4 w5 _ 28 29 30 31 (.int .i64 (-1)) (.int .i64 100) (.int .i64 100) (.bool false)) ((((hO.b5.set_ 28 _).set_ 29 _).set_ 30 _).set_ 31 _); rw [newC_set] at hO6; simp only [List.cons_append, List.nil_append] at hO6)
    | ((with_reducible refine own_loadg0 hO6 ?_ _ rfl rfl _ Tryz.underlying27 rfl (by kernel_rfl) ?_); (· first | rfl | (simp [Region.wanted, yielded]; done)))
    | ((with_reducible refine own_loadg5 hO6 ?_ _ rfl rfl _ Tryz.underlying44 rfl (by kernel_rfl) ?_); (· first | rfl | (simp [Region.wanted, yielded]; done)))
    | (go_at_call 13; (with_reducible refine (hmx _ hO6.below).mono ?_); rintro e w7 ⟨rfl, hb7⟩; replace hO6 := hO6.grow hb7)
    | ((with_reducible refine own_row3 (newC (-1) 100 100 false) hO6 rfl _ _ rfl rfl rfl (by kernel_rfl) rfl (by kernel_rfl) ?_); intro wR hOR hszR hkR; replace hO6 := hOR; clear hOR))
  exact bodyPost_ret (results_ct1 Tryz.results29 _ _ _ _ _ _ rfl rfl hO6.b3 Tryz.underlying44 rfl (by kernel_rfl)) rfl ⟨rfl, hO6.below⟩
end Go.Proofs.YtpjdcpicfkdioaaGreatDoor
/- shake.Ask, at the chapter's example. -/
namespace Go.Proofs.YtpjdcpicfkdioaaGreatDoor
open Go.RowKit Go.Shelf

def peer1 : Array Value := #[.int .i64 0, .int .i64 5, .int .u32 1, .int .u32 2, .int .u32 3, .int .u32 4, .int .i64 1, .int .u32 1, .int .u32 0, .int .u32 0, .int .u32 0, .int .u32 0, .int .u32 0, .bool false, .int .u32 0, .int .u32 0]
def pdu1 : Array Value := #[.int .i64 1, .int .i64 0, .int .i64 5, .int .u32 1, .int .u32 0, .slice none 0 0, .int .u64 0]
theorem ask_set : putAt (((peer0.setIfInBounds 6 (.int .i64 1)).setIfInBounds 7 (.int .u32 1)).setIfInBounds 8 (.int .u32 0)) 9 [.int .u32 0, .int .u32 0, .int .u32 0, .int .u32 0] = peer1 := rfl
set_option maxRecDepth 8000 in
theorem train_c (w : World) : Calls Tryz.prog 82 #[.agg peer0] w fun e w' => e = .returned (.bool true) ∧ Below w.heap.size w w' := by
  have hO : Own w _ [_] := (Own.nil w).alloc 34 peer0 _ rfl
  have hcl := hO.b0.cell
  unfold peer0 at *
  go_enter Tryz.func82, Tryz.ntmps82
  go_wp2_with fail
  go_ret
  exact ⟨rfl, hO.below⟩
set_option maxRecDepth 8000 in
theorem numbered_c (w : World) : Calls Tryz.prog 83 #[.agg peer0] w fun e w' => e = .returned (.bool true) ∧ Below w.heap.size w w' := by
  have hO : Own w _ [_] := (Own.nil w).alloc 34 peer0 _ rfl
  have hcl := hO.b0.cell
  unfold peer0 at *
  go_enter Tryz.func83, Tryz.ntmps83
  go_wp2_with fail
  go_ret
  exact ⟨rfl, hO.below⟩
theorem peer1_1 : peer1[1]? = some (.int .i64 5) := rfl
set_option maxRecDepth 8000 in
set_option maxHeartbeats 4000000 in
theorem ask_c (w : World) : Calls Tryz.prog 44 #[.agg peer0, .int .u32 1] w fun e w' => e = .returned (.tuple #[.agg peer1, .agg pdu1, .int .i64 0]) ∧ Below w.heap.size w w' := by
  have ht := fun W => train_c W
  have hn := fun W => numbered_c W
  have hO : Own w _ [_, _, _] := Own.start3 w 34 34 115 peer0 #[.int .i64 0, .int .i64 0, .int .u32 0, .int .u32 0, .int .u32 0, .int .u32 0, .int .i64 0, .int .u32 0, .int .u32 0, .int .u32 0, .int .u32 0, .int .u32 0, .int .u32 0, .bool false, .int .u32 0, .int .u32 0] #[.int .i64 0, .int .i64 0, .int .i64 0, .int .u32 0, .int .u32 0, .slice none 0 0, .int .u64 0]
  go_enter Tryz.func44, Tryz.ntmps44
  go_wp2_with (first
    | ((with_reducible refine own_loadg0 hO ?_ _ rfl rfl _ Tryz.underlying34 rfl (by kernel_rfl) ?_); (· first | rfl | (simp [Region.wanted, yielded]; done)))
    | (go_at_call 82; (with_reducible refine (ht _).mono ?_); rintro e w1 ⟨rfl, hb1⟩; replace hO := hO.grow hb1)
    | (go_at_call 83; (with_reducible refine (hn _).mono ?_); rintro e w2 ⟨rfl, hb2⟩; replace hO := hO.grow hb2)
    | (with_reducible refine own_cell0 6 (.int .i64 1) hO rfl _ _ _ rfl rfl rfl (by kernel_rfl) (by decide) rfl ?_; intro w31 hO31 hz31 hk31; replace hO := hO31; clear hO31 hz31 hk31)
    | (with_reducible refine own_cell0 7 (.int .u32 1) hO rfl _ _ _ rfl rfl rfl (by kernel_rfl) (by simp [peer0]) rfl ?_; intro w32 hO32 hz32 hk32; replace hO := hO32; clear hO32 hz32 hk32)
    | (with_reducible refine own_cell0 8 (.int .u32 0) hO rfl _ _ _ rfl rfl rfl (by kernel_rfl) (by simp [peer0]) rfl ?_; intro w33 hO33 hz33 hk33; replace hO := hO33; clear hO33 hz33 hk33)
    | (with_reducible refine own_mid0 9 (#[.int .u32 0, .int .u32 0, .int .u32 0, .int .u32 0]) hO rfl _ _ _ rfl rfl rfl (by kernel_rfl) (by simp [peer0]) (by simp [Value.oneCell']) ?_; intro w34 hO34 hz34 hk34; replace hO := hO34; clear hO34 hz34 hk34))
  rw [ask_set] at hO
  apply wp_region_lexs [(w.heap.size + 1, none), (w.heap.size + 1 + 1, none)]
  case hFl =>
    intro u
    simp only [List.map, fill, Act.put, List.setIfInBounds_toArray, List.set_cons_zero, List.set_cons_succ, Nat.reduceAdd, Nat.zero_add]
    rfl
  case hm => kernel_rfl
  case hB => kernel_rfl
  case hap => kernel_rfl
  refine LexS.is (c := .agg (peer1)) ?_ ?_
  · (intro u w' hk hd
     have hbk := hk.blk hO.b0 (by intro o h; simp at h; try omega)
     refine lookedT_want (by first | rfl | simp [Region.wanted, yielded]) ?_
     intro K hK
     exact wp_load_row 34 _ rfl _ rfl 34 _ (0, 0) _ hbk Tryz.underlying34 rfl (by kernel_rfl) (hK _ _ (Stp.refl _ _) rfl))
  apply LexS.is
  · (intro u w' hk hd
     simp [Waited, Region.binds, Is] at hd
     refine lookedT_want (by first | rfl | simp [Region.wanted, yielded, hd]) ?_
     intro K hK
     skip
     go_wp2_with (fail)
     try simp only [hd] at hK
     refine hK _ _ ?_ rfl
     first | exact Stp.refl _ _ | exact Stp.of_below hb3 _)
  apply LexS.is
  · (intro u w' hk hd
     simp [Waited, Region.binds, Is] at hd
     refine lookedT_want (by first | rfl | simp [Region.wanted, yielded, hd]) ?_
     intro K hK
     have hcp := ((hk.blk hO.b0 (by intro o h; simp at h; try omega)).cell 1).trans peer1_1
     go_wp2_with (fail)
     try simp only [hd] at hK
     refine hK _ _ ?_ rfl
     first | exact Stp.refl _ _ | exact Stp.of_below hb3 _)
  apply LexS.is
  · (intro u w' hk hd
     simp [Waited, Region.binds, Is] at hd
     refine lookedT_want (by first | rfl | simp [Region.wanted, yielded, hd]) ?_
     intro K hK
     skip
     go_wp2_with (fail)
     try simp only [hd] at hK
     refine hK _ _ ?_ rfl
     first | exact Stp.refl _ _ | exact Stp.of_below hb3 _)
  apply LexS.is
  · (intro u w' hk hd
     simp [Waited, Region.binds, Is] at hd
     refine lookedT_want (by first | rfl | simp [Region.wanted, yielded, hd]) ?_
     intro K hK
     skip
     go_wp2_with (fail)
     try simp only [hd] at hK
     refine hK _ _ ?_ rfl
     first | exact Stp.refl _ _ | exact Stp.of_below hb3 _)
  refine LexS.row (w.heap.size + 1) 34 _ (peer1) (by simp) hO.b1 (by rfl) 34 _ _ rfl (by kernel_rfl) (by kernel_rfl) ?_ ?_
  · (intro u w' hk hd
     simp [Waited, Region.binds, Is] at hd
     exact ⟨by first | rfl | simp [Region.wanted, yielded, hd], rfl, by simp [Act.eval, hd]⟩)
  refine LexS.row (w.heap.size + 1 + 1) 115 _ (#[.int .i64 1, .int .i64 0, .int .i64 5, .int .u32 1, .int .u32 0, .slice none 0 0, .int .u64 0]) (by simp) hO.b2 (by rfl) 115 _ _ rfl (by kernel_rfl) (by simp [Value.oneCell']) ?_ ?_
  · (intro u w' hk hd
     simp [Waited, Region.binds, Is] at hd
     exact ⟨by first | rfl | simp [Region.wanted, yielded, hd], rfl, by simp [Act.eval, hd]⟩)
  apply LexS.is
  · (intro u w' hk hd
     simp [Waited, Region.binds, Is] at hd
     refine lookedT_want (by first | rfl | simp [Region.wanted, yielded, hd]) ?_
     intro K hK
     skip
     go_wp2_with (fail)
     try simp only [hd] at hK
     refine hK _ _ ?_ rfl
     first | exact Stp.refl _ _ | exact Stp.of_below hb3 _)
  refine LexS.nil (by simp [W2.fit, Apart2]) ?_
  intro u w7 hk hd
  simp only [List.nil_append, List.cons_append] at hd
  have h5 : Blk w7 (w.heap.size + 1) 34 peer1 := hd 5 _ rfl
  have h6 : Blk w7 (w.heap.size + 1 + 1) 115 pdu1 := hd 6 _ rfl
  have h7 := hd 7 _ rfl
  simp only [Is] at h7
  clear hd
  go_wp2_with fail
  exact bodyPost_ret (results_cct Tryz.results44 _ _ _ _ _ _ _ _ _ rfl rfl h7 h5 h6 Tryz.underlying34 rfl (by kernel_rfl) Tryz.underlying115 rfl (by kernel_rfl)) rfl ⟨rfl, hO.below.trans (hk.below hO.below.size (by intro k o h; simp at h; omega))⟩
end Go.Proofs.YtpjdcpicfkdioaaGreatDoor
