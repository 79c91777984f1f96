/- Texts in one: Awake19 LawAid BytesIn Light. -/
import Derived.Test.YtpjdcpicfkdioaaGreatDoorK35
import Derived.Test.YtpjdcpicfkdioaaGreatDoorRows
import Derived.Test.YtpjdcpicfkdioaaGreatDoorK01
import Derived.ProofKit
import Derived.OpenShut
import Derived.Lib.SmallJoins
import Derived.ShutString
import Derived.ChangeOld
import Derived.Deep.Slices
import Derived.Test.YtpjdcpicfkdioaaGreatDoorK20
set_option linter.unusedSimpArgs false
set_option linter.unusedVariables false
/- The law's awake: the chapter's example holds. -/
namespace Go.Proofs.YtpjdcpicfkdioaaGreatDoor
open Go.RowKit Go.Shelf

theorem setRow_new (W : World) (old cs : Array Value) (t : TypeId) : (W.alloc (.cells old t)).setRow W.heap.size cs = W.alloc (.cells cs t) := by
  unfold World.alloc World.setRow
  simp only
  congr 1
  apply Array.ext
  · simp
  · intro j h1 h2
    simp only [Array.getElem_modify, Array.getElem_push]
    simp only [Array.size_modify, Array.size_push] at h1
    by_cases h : j < W.heap.size
    · have hn : W.heap.size ≠ j := by omega
      simp [h, hn]
    · have hn : W.heap.size = j := by omega
      simp [hn]
theorem run_store_new {P : Program} (W : World) (t : TypeId) (old cells : Array Value) (hold : old.size = cells.size) (h1 : cells.all (·.oneCell') = true) : (storeCells ⟨W.heap.size, 0, none⟩ cells.toList).run P (W.alloc (.cells old t)) = .ok () (W.alloc (.cells cells t)) := by
  have := run_storeCells_from (P := P) W.heap.size t cells.toList 0 old (W.alloc (.cells old t)) (heap_alloc_new W _) (by simp; omega) (fun v hv => (Array.all_eq_true_iff_forall_mem.1 h1) v (by simpa using hv))
  rw [this]
  simp [setRow_new]
def trZ : Array Value := #[.int .i64 0, .int .i64 0, .int .i64 0, .int .i64 0, .int .i64 0, .int .i64 0, .int .i64 0, .int .i64 0, .int .i64 0, .int .i64 0, .int .i64 0, .int .i64 0, .int .i64 0, .int .u32 0, .int .u32 0, .int .u32 0, .int .u32 0, .int .i64 0, .int .u32 0, .int .u32 0, .int .u32 0, .int .u32 0, .int .u32 0, .int .u32 0, .bool false, .int .u32 0, .int .u32 0, .int .u32 0, .int .i64 0, .int .i64 0, .int .i64 0, .bool false, .int .i64 0, .bool false, .int .i64 0, .int .i64 0, .bool false, .int .i64 0, .int .i64 0, .bool false, .int .i64 0, .bool false, .slice none 0 0, .slice none 0 0, .int .i64 0, .int .i64 0, .bool false, .slice none 0 0]
theorem ps_eq (W : World) : (binOp .eql 38 (.agg #[.int .i64 1, .int .i64 200, .bool false]) (.agg #[.int .i64 1, .int .i64 200, .bool false])).run Tryz.prog W = .ok (.bool true) W := by
  have u3 := Tryz.underlying3
  have a3 := Tryz.isAgg3
  have z3 := Tryz.sizeOf3
  have u4 := Tryz.underlying4
  have a4 := Tryz.isAgg4
  have z4 := Tryz.sizeOf4
  have hSE : Tryz.prog.underlying 38 = some (.struct (Tryz.prog.fieldsOf 38)) := by kernel_rfl
  have hpE : Tryz.prog.stoodInHeld 38 = false := by kernel_rfl
  rw [run_eql_struct, show (10000 : Nat) = 9999 + 1 from rfl]
  have hE := run_equalIn_agg (P := Tryz.prog) W 9999 38 #[.int .i64 1, .int .i64 200, .bool false] #[.int .i64 1, .int .i64 200, .bool false] hSE hpE
  simp only [Program.fieldsOf, Tryz.underlying38] at hE
  rw [hE]
  go_simp
def y19 : Tr := movedR line16 train19 250 32
theorem y19_is : y19.pos.edge = 1 ∧ y19.pos.at_ = 200 ∧ y19.pos.rev = false ∧ y19.ref = 8 ∧ y19.past = 180 ∧ mayX line16 y19 = true := by decide +kernel
theorem y19_c (M : TrM) : (trC y19 M)[34]? = some (.int .i64 1) ∧ (trC y19 M)[35]? = some (.int .i64 200) ∧ (trC y19 M)[36]? = some (.bool false) ∧ (trC y19 M)[37]? = some (.int .i64 8) ∧ (trC y19 M)[38]? = some (.int .i64 180) := by
  obtain ⟨h1, h2, h3, h4, h5, _⟩ := y19_is
  exact ⟨by rw [tr34, h1], by rw [tr35, h2], by rw [tr36, h3], by rw [tr37, h4], by rw [tr38, h5]⟩
theorem step_250 : stepE line16 train19 250 32 = 0 := by decide +kernel
theorem step_251 : stepE line16 train19 251 32 = 141 := by decide +kernel
theorem step_1 : stepE line16 train19 1 33 = 141 := by decide +kernel
theorem front_19 : frontX line16 train19 = some 40 := by decide +kernel
theorem auth_19 : totalT (authX line16 train19 32) = 250 ∧ (authX line16 train19 32).length ≤ 1000 := by decide +kernel
set_option maxRecDepth 8000 in
set_option maxHeartbeats 8000000 in
theorem awake_k (w : World) : Calls Tryz.prog 4 #[] w fun e w' => e = .returned (.bool true) ∧ Below w.heap.size w w' := by
  obtain ⟨y, hy, c34, c35, c36, c37, c38, hmay⟩ : ∃ y : Tr, movedR line16 train19 250 32 = y ∧ y.pos.edge = 1 ∧ y.pos.at_ = 200 ∧ y.pos.rev = false ∧ y.ref = 8 ∧ y.past = 180 ∧ mayX line16 y = true := ⟨y19, rfl, y19_is⟩
  have hs1 := fun (W : World) (M : TrM) => run_store_new (P := Tryz.prog) W 44 #[.int .i64 0, .int .i64 0, .int .i64 0, .int .i64 0, .int .i64 0, .int .i64 0, .int .i64 0, .int .i64 0, .int .i64 0, .int .i64 0, .int .i64 0, .int .i64 0, .int .i64 0, .int .u32 0, .int .u32 0, .int .u32 0, .int .u32 0, .int .i64 0, .int .u32 0, .int .u32 0, .int .u32 0, .int .u32 0, .int .u32 0, .int .u32 0, .bool false, .int .u32 0, .int .u32 0, .int .u32 0, .int .i64 0, .int .i64 0, .int .i64 0, .bool false, .int .i64 0, .bool false, .int .i64 0, .int .i64 0, .bool false, .int .i64 0, .int .i64 0, .bool false, .int .i64 0, .bool false, .slice none 0 0, .slice none 0 0, .int .i64 0, .int .i64 0, .bool false, .slice none 0 0] (trC train19 M) rfl (trC_ones _ _)
  have hs2 := fun (W : World) (M : TrM) => run_store_new (P := Tryz.prog) W 44 #[.int .i64 0, .int .i64 0, .int .i64 0, .int .i64 0, .int .i64 0, .int .i64 0, .int .i64 0, .int .i64 0, .int .i64 0, .int .i64 0, .int .i64 0, .int .i64 0, .int .i64 0, .int .u32 0, .int .u32 0, .int .u32 0, .int .u32 0, .int .i64 0, .int .u32 0, .int .u32 0, .int .u32 0, .int .u32 0, .int .u32 0, .int .u32 0, .bool false, .int .u32 0, .int .u32 0, .int .u32 0, .int .i64 0, .int .i64 0, .int .i64 0, .bool false, .int .i64 0, .bool false, .int .i64 0, .int .i64 0, .bool false, .int .i64 0, .int .i64 0, .bool false, .int .i64 0, .bool false, .slice none 0 0, .slice none 0 0, .int .i64 0, .int .i64 0, .bool false, .slice none 0 0] (trC y M) rfl (trC_ones _ _)
  have hs3 := fun (W : World) => run_store_new (P := Tryz.prog) W 44 #[.int .i64 0, .int .i64 0, .int .i64 0, .int .i64 0, .int .i64 0, .int .i64 0, .int .i64 0, .int .i64 0, .int .i64 0, .int .i64 0, .int .i64 0, .int .i64 0, .int .i64 0, .int .u32 0, .int .u32 0, .int .u32 0, .int .u32 0, .int .i64 0, .int .u32 0, .int .u32 0, .int .u32 0, .int .u32 0, .int .u32 0, .int .u32 0, .bool false, .int .u32 0, .int .u32 0, .int .u32 0, .int .i64 0, .int .i64 0, .int .i64 0, .bool false, .int .i64 0, .bool false, .int .i64 0, .int .i64 0, .bool false, .int .i64 0, .int .i64 0, .bool false, .int .i64 0, .bool false, .slice none 0 0, .slice none 0 0, .int .i64 0, .int .i64 0, .bool false, .slice none 0 0] zeroTr rfl (by kernel_rfl)
  have hli := fun W => line_k W
  have hps := fun W => ps_eq W
  unfold TpM.cells at hli
  go_enter Tryz.func4, Tryz.ntmps4
  go_wp2_with (first
    | (go_at_call 10; (with_reducible refine (holds_c _).mono ?_); rintro e w1 ⟨v, rfl, hX, hb1⟩; have hO := (Own.nil w).grow hb1; replace hO := hO.alloc 44 (trC train19 (heldM v)) w1.heap.size rfl; simp only [List.nil_append] at hO; replace hX := hX.below ((Below.refl _ _).alloc (Nat.le_refl _) (.cells (trC train19 (heldM v)) 44)))
    | (go_at_call 11; (with_reducible refine (hli _).mono ?_); rintro e w2 ⟨m, rfl, hT, hb2⟩; replace hO := hO.grow hb2; replace hX := hX.below hb2; replace hO := hO.alloc 27 #[.slice m.A1 m.n1 m.c1, .slice m.A2 m.n2 m.c2, .slice m.A3 m.n3 m.c3, .slice m.A4 m.n4 m.c4] w2.heap.size rfl; simp only [List.cons_append, List.nil_append] at hO; replace hX := hX.below ((Below.refl w2.heap.size w2).alloc (Nat.le_refl _) (.cells #[.slice m.A1 m.n1 m.c1, .slice m.A2 m.n2 m.c2, .slice m.A3 m.n3 m.c3, .slice m.A4 m.n4 m.c4] 27)); replace hT := hT.below ((Below.refl w2.heap.size w2).alloc (Nat.le_refl _) (.cells #[.slice m.A1 m.n1 m.c1, .slice m.A2 m.n2 m.c2, .slice m.A3 m.n3 m.c3, .slice m.A4 m.n4 m.c4] 27)); have hct2 := hO.b1.cell)
    | ((with_reducible refine own_loadg0 hO ?_ _ rfl rfl _ Tryz.underlying44 rfl (trC_info _ _) ?_); (· first | rfl | (simp [Region.wanted, yielded]; done)))
    | ((with_reducible refine own_loadg2 hO ?_ _ rfl rfl _ Tryz.underlying44 rfl (trC_info _ _) ?_); (· first | rfl | (simp [Region.wanted, yielded]; done)))
    | (go_at_call 6; (have hq := stepM_k hT train19 (heldM v) hX 250 32); (unfold StepPost TpM.cells at hq); (rw [step_250, hy] at hq); (with_reducible refine hq.mono ?_); clear hq; rintro e w3 ⟨cs, rfl, hb3, hz3, hy3⟩; obtain ⟨M1, rfl, hY⟩ := hy3 rfl; clear hz3 hy3; replace hO := hO.grow hb3; replace hX := hX.below hb3; replace hT := hT.below hb3; replace hO := hO.alloc 44 (trC y M1) w3.heap.size rfl; simp only [List.cons_append, List.nil_append] at hO; replace hX := hX.below ((Below.refl w3.heap.size w3).alloc (Nat.le_refl _) (.cells (trC y M1) 44)); replace hT := hT.below ((Below.refl w3.heap.size w3).alloc (Nat.le_refl _) (.cells (trC y M1) 44)); have hctw3 := hO.b1.cell; replace hY := hY.below ((Below.refl w3.heap.size w3).alloc (Nat.le_refl _) (.cells (trC y M1) 44)))
    | (go_at_call 6; (have hq := stepM_k hT train19 (heldM v) hX 251 32); (unfold StepPost TpM.cells at hq); (rw [step_251] at hq); (with_reducible refine hq.mono ?_); clear hq; rintro e w4 ⟨cs, rfl, hb4, hz4, hy4⟩; obtain rfl := hz4 (by decide); clear hz4 hy4; replace hO := hO.grow hb4; replace hX := hX.below hb4; replace hT := hT.below hb4; replace hO := hO.alloc 44 (zeroTr) w4.heap.size rfl; simp only [List.cons_append, List.nil_append] at hO; replace hX := hX.below ((Below.refl w4.heap.size w4).alloc (Nat.le_refl _) (.cells (zeroTr) 44)); replace hT := hT.below ((Below.refl w4.heap.size w4).alloc (Nat.le_refl _) (.cells (zeroTr) 44)); have hctw4 := hO.b1.cell; replace hY := (hY.below hb4).below ((Below.refl w4.heap.size w4).alloc (Nat.le_refl _) (.cells zeroTr 44)))
    | (go_at_call 6; (have hq := stepM_k hT train19 (heldM v) hX 1 33); (unfold StepPost TpM.cells at hq); (rw [step_1] at hq); (with_reducible refine hq.mono ?_); clear hq; rintro e w5 ⟨cs, rfl, hb5, hz5, hy5⟩; obtain rfl := hz5 (by decide); clear hz5 hy5; replace hO := hO.grow hb5; replace hX := hX.below hb5; replace hT := hT.below hb5; replace hO := hO.alloc 44 (zeroTr) w5.heap.size rfl; simp only [List.cons_append, List.nil_append] at hO; replace hX := hX.below ((Below.refl w5.heap.size w5).alloc (Nat.le_refl _) (.cells (zeroTr) 44)); replace hT := hT.below ((Below.refl w5.heap.size w5).alloc (Nat.le_refl _) (.cells (zeroTr) 44)); have hctw5 := hO.b1.cell; replace hY := (hY.below hb5).below ((Below.refl w5.heap.size w5).alloc (Nat.le_refl _) (.cells zeroTr 44)))
    | (go_at_call 6; (have hq := stepS_c hT hX); (unfold TpM.cells at hq); (with_reducible refine hq.mono ?_); clear hq; rintro e w6 ⟨M2, A, c, rfl, hb6⟩; replace hO := hO.grow hb6; replace hX := hX.below hb6; replace hT := hT.below hb6; replace hO := hO.alloc 44 (trC train19 M2) w6.heap.size rfl; simp only [List.cons_append, List.nil_append] at hO; replace hX := hX.below ((Below.refl w6.heap.size w6).alloc (Nat.le_refl _) (.cells (trC train19 M2) 44)); replace hT := hT.below ((Below.refl w6.heap.size w6).alloc (Nat.le_refl _) (.cells (trC train19 M2) 44)); have hctw6 := hO.b1.cell; replace hY := (hY.below hb6).below ((Below.refl w6.heap.size w6).alloc (Nat.le_refl _) (.cells (trC train19 M2) 44)))
    | (go_at_call 12; (have hq := frontX_m hT train19 (heldM v) hX); (unfold TpM.cells frontV at hq); (rw [front_19] at hq); (with_reducible refine hq.mono ?_); clear hq; rintro e w7 ⟨rfl, hb7⟩; replace hO := hO.grow hb7; replace hX := hX.below hb7; replace hT := hT.below hb7; replace hY := hY.below hb7; have hct7 := hO.b1.cell; have hcy := hO.b2.cell; have y34 := tr34 y M1; have y35 := tr35 y M1; have y36 := tr36 y M1; have y37 := tr37 y M1; have y38 := tr38 y M1; rw [c34] at y34; rw [c35] at y35; rw [c36] at y36; rw [c37] at y37; rw [c38] at y38; clear c34 c35 c36 c37 c38; obtain ⟨_, g34⟩ := Array.getElem?_eq_some_iff.1 y34; obtain ⟨_, g35⟩ := Array.getElem?_eq_some_iff.1 y35; obtain ⟨_, g36⟩ := Array.getElem?_eq_some_iff.1 y36; obtain ⟨_, g37⟩ := Array.getElem?_eq_some_iff.1 y37; obtain ⟨_, g38⟩ := Array.getElem?_eq_some_iff.1 y38)
    | (go_at_call 13; (have hq := mayX_m hT y M1 hY); (unfold TpM.cells at hq); (rw [hmay] at hq); (with_reducible refine hq.mono ?_); clear hq; rintro e w8 ⟨rfl, hb8⟩; replace hO := hO.grow hb8; replace hX := hX.below hb8; replace hT := hT.below hb8; have hct8 := hO.b1.cell)
    | (go_at_call 7; (have hq := auth_k hT train19 (heldM v) hX 32); (unfold TpM.cells at hq); (with_reducible refine hq.mono ?_); clear hq; rintro e w9 ⟨A9, c9, rfl, hr9, hb9⟩; replace hO := hO.grow hb9)
    | (go_at_call 9; (have hq := total_k _ _ c9 _ _ hr9 rfl auth_19.2); (rw [auth_19.1] at hq); (with_reducible refine hq.mono ?_); clear hq; rintro e w10 ⟨rfl, hb10⟩; replace hO := hO.grow hb10))
  go_ret
  exact ⟨rfl, hO.below⟩
end Go.Proofs.YtpjdcpicfkdioaaGreatDoor
/- What every law's frame uses: arguments opened to the walk's own words. -/
namespace Go.Proofs.YtpjdcpicfkdioaaGreatDoor
open Go.ChangeShapes Go.WideShapes Go.ChangeAt Go.RowKit
open Go.ChangeMaps (open_string shut_string)

theorem own : ownKnob Tryz.prog.godebug = none := by kernel_rfl
theorem laidOut : laidOutB Tryz.prog = true := by kernel_rfl
section
variable {H : Type} {enc : TypeId × Value → H} {w : World} {base : Nat} {spare : Nat → Bool} {held : Bool}
theorem trod_q32 {fuel : Nat} {v : Value} {x : DataW H × List MemPlace} (h : DataW.trod enc Tryz.prog w base spare held fuel 30 [v] = some x) : ∃ a : BitVec 32, v = q32 a := by
  obtain ⟨n, e, _, hw⟩ := DataW.trod_int Tryz.underlying30 h
  obtain rfl : v = .int .u32 n := by simpa using e
  have hb := bounds_u32 hw
  exact ⟨_, q32_ofInt n hb.1 (by omega)⟩
set_option maxRecDepth 100000 in
theorem open_q32 {r : Reach} {b0 : Nat} {v : Value} {d : DataW H} {p : List MemPlace} (hv : Value.okWide Tryz.prog w r b0 30 v) (h : DataW.Trod enc Tryz.prog w base spare held 30 v d p) : ∃ a : BitVec 32, v = q32 a := by
  obtain ⟨n, rfl, _, _, hw⟩ := open_int Tryz.underlying30 hv h
  have hb := bounds_u32 hw
  exact ⟨_, q32_ofInt n hb.1 (by omega)⟩
set_option maxRecDepth 100000 in
theorem open_q64 {r : Reach} {b0 : Nat} {v : Value} {d : DataW H} {p : List MemPlace} (hv : Value.okWide Tryz.prog w r b0 113 v) (h : DataW.Trod enc Tryz.prog w base spare held 113 v d p) : ∃ a : BitVec 64, v = q64 a := by
  obtain ⟨n, rfl, _, _, hw⟩ := open_int Tryz.underlying113 hv h
  have hb := bounds_u64 hw
  exact ⟨_, q64_ofInt n hb.1 (by omega)⟩
set_option maxRecDepth 100000 in
theorem open_key {r : Reach} {b0 : Nat} {v : Value} {d : DataW H} {p : List MemPlace} (hv : Value.okWide Tryz.prog w r b0 32 v) (h : DataW.Trod enc Tryz.prog w base spare held 32 v d p) :
    ∃ k : K4, v = .agg #[q32 k.k0, q32 k.k1, q32 k.k2, q32 k.k3] := by
  obtain ⟨cs, rfl, hsz, _⟩ : ∃ cs, v = .agg cs ∧ cs.size = Tryz.prog.cellsOf 32 ∧ Row.okWide Tryz.prog w r b0 32 cs := by
    simp only [Value.okWide, Tryz.underlying32] at hv
    exact hv
  have hc4 : Tryz.prog.cellsOf 32 = 4 := by kernel_rfl
  have hc1 : Tryz.prog.cellsOf 30 = 1 := by kernel_rfl
  obtain ⟨c0, c1, c2, c3, rfl⟩ := Go.Joins.array4 (hsz.trans hc4)
  obtain ⟨fuel, hf⟩ := h
  obtain ⟨xs, m, _, _, _, hlen, hg⟩ := DataW.trod_array Tryz.underlying32 hf
  rw [hc1] at hg
  match xs, hlen with
  | [y0, y1, y2, y3], _ =>
    obtain ⟨a, rfl⟩ := trod_q32 (x := y0) (by simpa [Value.cells] using hg 0 (by decide))
    obtain ⟨b, rfl⟩ := trod_q32 (x := y1) (by simpa [Value.cells] using hg 1 (by decide))
    obtain ⟨c, rfl⟩ := trod_q32 (x := y2) (by simpa [Value.cells] using hg 2 (by decide))
    obtain ⟨d, rfl⟩ := trod_q32 (x := y3) (by simpa [Value.cells] using hg 3 (by decide))
    exact ⟨⟨a, b, c, d⟩, rfl⟩
end
end Go.Proofs.YtpjdcpicfkdioaaGreatDoor
/- A slice of bytes that came in, opened to the walk's own words. -/
namespace Go.Proofs.YtpjdcpicfkdioaaGreatDoor
open Go.ChangeShapes Go.WideShapes Go.ChangeAt Go.RowKit Go.Deep
theorem cell_lt {w : World} {a : Addr} {v : Value} (h : w.cell? a = some v) : a.block < w.heap.size := by
  rcases Nat.lt_or_ge a.block w.heap.size with hl | hl
  · exact hl
  · simp [World.cell?, Array.getElem?_eq_none hl] at h
section
variable {H : Type} {enc : TypeId × Value → H} {w : World} {base : Nat} {spare : Nat → Bool}
theorem q8_wf (n : Int) (h : (Lit.int .u8 n).wf = true) : Value.int .u8 n = q8 (UInt8.ofNat n.toNat) := by
  have hb := bounds_u8 h
  unfold q8
  congr 1
  simp only [UInt8.toNat_ofNat']
  omega
set_option maxRecDepth 100000 in
theorem open_q8 {r : Reach} {b0 : Nat} {v : Value} {d : DataW H} {p : List MemPlace} {held : Bool} (hv : Value.okWide Tryz.prog w r b0 5 v) (h : DataW.Trod enc Tryz.prog w base spare held 5 v d p) : ∃ a : UInt8, v = q8 a := by
  obtain ⟨n, rfl, _, _, hw⟩ := open_int Tryz.underlying5 hv h
  exact ⟨_, q8_wf n hw⟩
set_option maxRecDepth 100000 in
theorem open_bytes {r : Reach} {b0 : Nat} {v : Value} {d : DataW H} {p : List MemPlace} {held : Bool} (hv : Value.okWide Tryz.prog w r b0 47 v) (h : DataW.Trod enc Tryz.prog w base (fun _ => true) held 47 v d p) :
    ∃ bs, IsBytes bs v w := by
  obtain ⟨A, n, c, rfl⟩ := okWide_slice Tryz.underlying47 hv
  obtain ⟨fuel, hf⟩ := h
  have hc1 : Tryz.prog.cellsOf 5 = 1 := by kernel_rfl
  rcases open_ints Tryz.underlying47 Tryz.underlying5 hc1 hf with ⟨hcs, hx⟩ | ⟨a, len', cap', zs, hcs, _, hl, hm, hz, hx, hcell, hwz⟩
  · simp [Value.cells] at hcs
    obtain ⟨rfl, rfl, rfl⟩ := hcs
    exact ⟨[], none, 0, rfl, Bytes.nil _⟩
  · simp [Value.cells] at hcs
    obtain ⟨rfl, rfl, rfl⟩ := hcs
    simp only [if_true] at hz
    have hlen : ((zs.take n).map fun n => UInt8.ofNat n.toNat).length = n := by simp; omega
    refine ⟨(zs.take n).map fun n => UInt8.ofNat n.toNat, some a, c, by rw [hlen], ?_, by rw [hlen]; exact hl, hm⟩
    intro h0
    rw [cellsOf_length, hlen] at h0
    obtain ⟨ab, ao, spot⟩ := a
    have hspot : spot = none := by simpa [Addr.add] using World.cell?_spot (hcell 0 (by omega))
    subst hspot
    refine ⟨ab, ao, rfl, ?_, ?_⟩
    · have := hcell 0 (by omega)
      exact cell_lt this
    · intro j u hu
      have hj : j < n := by
        rcases Nat.lt_or_ge j n with hj | hj
        · exact hj
        · rw [List.getElem?_eq_none (by rw [cellsOf_length, hlen]; exact hj)] at hu; cases hu
      have hcj := hcell j (by omega)
      rw [Addr.add_lit] at hcj
      rw [hcj]
      have e : zs[j]? = some (zs[j]'(by omega)) := List.getElem?_eq_getElem (by omega)
      rw [List.getD_eq_getElem?_getD, e]
      unfold cellsOf at hu
      rw [List.getElem?_map, List.getElem?_map, List.getElem?_take_of_lt hj, e] at hu
      simp only [Option.map_some, Option.some.injEq] at hu
      rw [← hu, Option.getD_some, q8_wf _ (hwz _ (List.getElem_mem _))]
theorem bytes_of_trod {held : Bool} {fuel : Nat} {v : Value} {x : DataW H × List MemPlace} (hf : DataW.trod enc Tryz.prog w base (fun _ => true) held fuel 47 [v] = some x) : ∃ bs, IsBytes bs v w := by
  have hc1 : Tryz.prog.cellsOf 5 = 1 := by kernel_rfl
  rcases open_ints Tryz.underlying47 Tryz.underlying5 hc1 hf with ⟨hcs, hx⟩ | ⟨a, len', cap', zs, hcs, _, hl, hm, hz, hx, hcell, hwz⟩
  · simp at hcs
    subst hcs
    exact ⟨[], none, 0, rfl, Bytes.nil _⟩
  · simp at hcs
    subst hcs
    simp only [if_true] at hz
    have hlen : ((zs.take len').map fun n => UInt8.ofNat n.toNat).length = len' := by simp; omega
    refine ⟨(zs.take len').map fun n => UInt8.ofNat n.toNat, some a, cap', by rw [hlen], ?_, by rw [hlen]; exact hl, hm⟩
    intro h0
    rw [cellsOf_length, hlen] at h0
    obtain ⟨ab, ao, spot⟩ := a
    have hspot : spot = none := by simpa [Addr.add] using World.cell?_spot (hcell 0 (by omega))
    subst hspot
    refine ⟨ab, ao, rfl, ?_, ?_⟩
    · have := hcell 0 (by omega)
      exact cell_lt this
    · intro j u hu
      have hj : j < len' := by
        rcases Nat.lt_or_ge j len' with hj | hj
        · exact hj
        · rw [List.getElem?_eq_none (by rw [cellsOf_length, hlen]; exact hj)] at hu; cases hu
      have hcj := hcell j (by omega)
      rw [Addr.add_lit] at hcj
      rw [hcj]
      have e : zs[j]? = some (zs[j]'(by omega)) := List.getElem?_eq_getElem (by omega)
      rw [List.getD_eq_getElem?_getD, e]
      unfold cellsOf at hu
      rw [List.getElem?_map, List.getElem?_map, List.getElem?_take_of_lt hj, e] at hu
      simp only [Option.map_some, Option.some.injEq] at hu
      rw [← hu, Option.getD_some, q8_wf _ (hwz _ (List.getElem_mem _))]
theorem int_of_trod {held : Bool} {fuel : Nat} {v : Value} {x : DataW H × List MemPlace} (hf : DataW.trod enc Tryz.prog w base spare held fuel 3 [v] = some x) : ∃ n : Int, v = .int .i64 n := by
  obtain ⟨n, e, _, _⟩ := DataW.trod_int Tryz.underlying3 hf
  exact ⟨n, by simpa using e⟩
end
end Go.Proofs.YtpjdcpicfkdioaaGreatDoor
/- The document's Light: is a track not too great? -/
namespace Go.Proofs.YtpjdcpicfkdioaaGreatDoor
open Go.RowKit Go.Shelf

/-- A track lies there, however great. -/
structure TpL (w : World) (t : Tp) (m : TpM) : Prop where
  lies : TpAt w t m.A1 m.A2 m.A3 m.A4 m.rs
  e1 : t.edges.length = m.n1
  e2 : t.joints.length = m.n2
  e3 : t.bals.length = m.n3
  e4 : t.routes.length = m.n4
  q1 : m.n1 ≤ m.c1
  q2 : m.n2 ≤ m.c2
  q3 : m.n3 ≤ m.c3
  q4 : m.n4 ≤ m.c4
  q5 : ∀ p ∈ m.rs, p.1.path.length ≤ p.2.2
theorem TpL.below {w w' : World} {t : Tp} {m : TpM} (h : TpL w t m) (hb : Below w.heap.size w w') : TpL w' t m := { h with lies := h.lies.below hb }
def lightT (t : Tp) (m : TpM) : Bool := decide (m.n1 ≤ 100) && decide (m.n2 ≤ 100) && decide (m.n3 ≤ 100) && decide (m.n4 ≤ 100) && t.routes.all (fun r => decide (r.path.length ≤ 100))
theorem TpL.is {w : World} {t : Tp} {m : TpM} (h : TpL w t m) (hl : lightT t m = true) : TpIs w t m := by
  unfold lightT at hl
  simp only [Bool.and_eq_true, decide_eq_true_eq, List.all_eq_true] at hl
  obtain ⟨⟨⟨⟨h1, h2⟩, h3⟩, h4⟩, h5⟩ := hl
  exact ⟨h.lies, h.e1, h.e2, h.e3, h.e4, h1, h2, h3, h4, h5, h.q1, h.q2, h.q3, h.q4, h.q5⟩
theorem light_all {rs : List Rt} {k : Nat} {r : Rt} (h : rs[k]? = some r) : (rs.take (k + 1)).all (fun r => decide (r.path.length ≤ 100)) = ((rs.take k).all (fun r => decide (r.path.length ≤ 100)) && decide (r.path.length ≤ 100)) := by
  rw [take_snoc' h, List.all_append]
  simp
set_option maxRecDepth 8000 in
set_option maxHeartbeats 8000000 in
theorem light_k {w : World} {t : Tp} {m : TpM} (h : TpL w t m) (hc : m.n4 ≤ 9223372036854775807) : Calls Tryz.prog 40 #[.agg m.cells] w fun e w' => e = .returned (.bool (lightT t m)) ∧ Below w.heap.size w w' := by
  have hO : Own w _ [_] := (Own.nil w).alloc 27 m.cells _ rfl
  have hcl := hO.b0.cell
  have hr : lightT t m = (decide (m.n1 ≤ 100) && decide (m.n2 ≤ 100) && decide (m.n3 ≤ 100) && decide (m.n4 ≤ 100) && t.routes.all (fun r => decide (r.path.length ≤ 100))) := rfl
  generalize lightT t m = lt at *
  unfold TpM.cells at *
  by_cases h1 : m.n1 ≤ 100
  · have f1 : decide (100 < (m.n1 : Int)) = false := by simp; omega
    by_cases h2 : m.n2 ≤ 100
    · have f2 : decide (100 < (m.n2 : Int)) = false := by simp; omega
      by_cases h3 : m.n3 ≤ 100
      · have f3 : decide (100 < (m.n3 : Int)) = false := by simp; omega
        by_cases h4 : m.n4 ≤ 100
        · have f4 : decide (100 < (m.n4 : Int)) = false := by simp; omega
          simp only [h1, h2, h3, h4, decide_true, Bool.true_and] at hr
          have HR := Lib.hid hr
          have HE : Hid (t.routes.length = m.n4) := Lib.hid h.e4
          have hrt := h.lies.routes
          have his := Lib.hid h.lies.is
          have hlr : m.rs.length = m.n4 := by
            rw [← h.e4, ← h.lies.is, List.length_map]
          have HLR := Lib.hid hlr
          clear hr hlr h h1 h2 h3
          go_enter Tryz.func40, Tryz.ntmps40
          go_wp2_with fail
          go_loopw [3] (fun i wr => ∃ k : Nat, i = .int .i64 k ∧ k ≤ m.n4 ∧ Hid ((t.routes.take k).all (fun r => decide (r.path.length ≤ 100)) = true) ∧ Own w wr [(w.heap.size, 27, #[.slice m.A1 m.n1 m.c1, .slice m.A2 m.n2 m.c2, .slice m.A3 m.n3 m.c3, .slice m.A4 m.n4 m.c4])]) (fun i _ => m.n4 - (intOf i).toNat)
          case atStart => exact ⟨0, rfl, Nat.zero_le _, Lib.hid rfl, hO⟩
          case round =>
            clear hO hcl
            obtain ⟨k, rfl, hk, hall, hO⟩ := hrel
            have hcl := hO.b0.cell
            by_cases hlt : k < m.n4
            · obtain ⟨p, hp⟩ := get_some HLR.out hlt
              obtain ⟨g, off, hA, hg, _, a1, _⟩ := hrt.rt hp
              have k1 := (hO.below.cell (p := ⟨g, off + k * 4 + 1, none⟩) hg).trans a1
              have hp2 : t.routes[k]? = some p.1 := by
                rw [← his.out, List.getElem?_map, hp]
                rfl
              have hst := Lib.hid (light_all hp2)
              simp only [hA] at hO hcl
              by_cases h5 : p.1.path.length ≤ 100
              · have f5 : decide (100 < (p.1.path.length : Int)) = false := by simp; omega
                have hok : (t.routes.take (k + 1)).all (fun r => decide (r.path.length ≤ 100)) = true := by
                  rw [hst.out, hall.out]
                  simpa using h5
                have HOK := Lib.hid hok
                clear hp hp2 hst hall hok a1 h5
                go_wp2_with fail
                go_roundw
                case rel => exact ⟨k + 1, by go_num, by omega, HOK, by rw [hA]; exact hO⟩
                case measure => simp [intOf]; omega
              · have f5 : decide (100 < (p.1.path.length : Int)) = true := by simp; omega
                have hno : lt = false := by
                  rw [HR.out, List.all_eq_false]
                  exact ⟨p.1, List.mem_of_getElem? hp2, by simpa using h5⟩
                have HNO := Lib.hid hno
                clear hp hp2 hst hall hno a1 h5
                go_wp2_with fail
                go_ret
                exact ⟨by rw [HNO.out]; rfl, hO.below⟩
            · obtain rfl : k = m.n4 := by omega
              have hyes : lt = true := by
                have := hall.out
                rw [List.take_of_length_le (by rw [HE.out]; exact Nat.le_refl _)] at this
                rw [HR.out, this]
              have HY := Lib.hid hyes
              clear hall hyes
              go_wp2_with fail
              go_ret
              exact ⟨by rw [HY.out]; rfl, hO.below⟩
        · have f4 : decide (100 < (m.n4 : Int)) = true := by simp; omega
          obtain rfl : lt = false := by rw [hr]; simp [h4]
          clear hr
          go_enter Tryz.func40, Tryz.ntmps40
          go_wp2_with fail
          go_ret
          exact ⟨rfl, hO.below⟩
      · have f3 : decide (100 < (m.n3 : Int)) = true := by simp; omega
        obtain rfl : lt = false := by rw [hr]; simp [h3]
        clear hr
        go_enter Tryz.func40, Tryz.ntmps40
        go_wp2_with fail
        go_ret
        exact ⟨rfl, hO.below⟩
    · have f2 : decide (100 < (m.n2 : Int)) = true := by simp; omega
      obtain rfl : lt = false := by rw [hr]; simp [h2]
      clear hr
      go_enter Tryz.func40, Tryz.ntmps40
      go_wp2_with fail
      go_ret
      exact ⟨rfl, hO.below⟩
  · have f1 : decide (100 < (m.n1 : Int)) = true := by simp; omega
    obtain rfl : lt = false := by rw [hr]; simp [h1]
    clear hr
    go_enter Tryz.func40, Tryz.ntmps40
    go_wp2_with fail
    go_ret
    exact ⟨rfl, hO.below⟩
end Go.Proofs.YtpjdcpicfkdioaaGreatDoor
