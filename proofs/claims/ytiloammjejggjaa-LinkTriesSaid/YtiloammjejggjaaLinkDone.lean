/- linesidelaw12.done: a call; what is refused leaves all as it was. -/
import Derived.Test.YtiloammjejggjaaLinkAwake
import Derived.Test.YtiloammjejggjaaLinkOps
set_option linter.unusedSimpArgs false
set_option linter.unusedVariables false
namespace Go.Proofs.Ytiloammjejggjaa
open Go.RowKit

theorem results_ctt {P : Program} {fn : Func} {a c d : Tmp} {t1 : TypeId} (h : fn.results = #[.cell a t1, .tmp c, .tmp d]) (tmps : Array Value) (w : World) (g1 : Nat) (c1 : Array Value) (v1 v2 : Value) (d1 : TypeDesc)
    (ha : tmps.getD a undef = .pointer (some ⟨g1, 0, none⟩)) (hc : tmps.getD c undef = v1) (hd : tmps.getD d undef = v2) (h1 : Blk w g1 t1 c1)
    (u1 : P.underlying t1 = some d1) (k1 : (match d1 with | .struct _ | .array _ _ => true | _ => false) = true) (i1 : (P.info? t1).map (·.size) = some c1.size) :
    (results fn tmps).run P w = .ok (.tuple #[.agg c1, v1, v2]) w := by
  have ha' : tmps[a]?.getD undef = .pointer (some ⟨g1, 0, none⟩) := by simpa using ha
  have hc' : tmps[c]?.getD undef = v1 := by simpa using hc
  have hd' : tmps[d]?.getD undef = v2 := by simpa using hd
  simp [results, h, ha', hc', hd', asAddr, run_loadVar_row w g1 t1 t1 c1 (0, 0) d1 h1 u1 k1 i1]
theorem PartsT.farO {w W W' : World} {L L' : List Bk} {base : Nat} {v : Value} {bss : List (List UInt8)} (h : PartsT W base v bss) (hO : Own w W L) (hO' : Own w W' L') {g : Nat} {cs : Array Value} (hg : Blk W g 25 cs) (hz : W'.heap.size = W.heap.size) (hk : ∀ k, k ≠ g → W'.heap[k]? = W.heap[k]?) : PartsT W' base v bss :=
  h.farL hg ⟨hO'.below.os.trans hO.below.os.symm, hO'.below.tape.trans hO.below.tape.symm, hO'.below.output.trans hO.below.output.symm, by omega, fun k _ hn => hk k (fun e => hn (by rw [e]))⟩
/-- What a call makes: a link of these messages. -/
def Made (y1 y2 y3 y4 er : Int) (ws : List Wt) (W : World) (e : Ending) (w' : World) : Prop := ∃ A n c, e = .returned (.tuple #[.agg #[.int .i64 y1, .int .i64 y2, .int .i64 y3, .int .i64 y4, .slice A n c], .int .i64 er]) ∧ IsWaitsN 0 ws (.slice A n c) w' ∧ Below W.heap.size W w'
def MadeT (y1 y2 y3 y4 er : Int) (ws : List Wt) (bss : List (List UInt8)) (b : Bool) (W : World) (e : Ending) (w' : World) : Prop := ∃ A n c Ao q co, e = .returned (.tuple #[.agg #[.int .i64 y1, .int .i64 y2, .int .i64 y3, .int .i64 y4, .slice A n c], .slice Ao q co, .bool b, .int .i64 er]) ∧ IsWaitsN 0 ws (.slice A n c) w' ∧ PartsT w' 0 (.slice Ao q co) bss ∧ Below W.heap.size W w'
/-- What done hands back. -/
def DoneD (y1 y2 y3 y4 : Int) (ws : List Wt) (bss : List (List UInt8)) (b : Bool) (w : World) (e : Ending) (w' : World) : Prop := ∃ A n c Ao q co, e = .returned (.tuple #[.agg #[.int .i64 y1, .int .i64 y2, .int .i64 y3, .int .i64 y4, .slice A n c], .slice Ao q co, .bool b]) ∧ IsWaitsN 0 ws (.slice A n c) w' ∧ PartsT w' 0 (.slice Ao q co) bss ∧ Below w.heap.size w w'
set_option maxHeartbeats 4000000 in
theorem done0_ok (x1 x2 x3 x4 : Int) (ws : List Wt) (A : Option Addr) (n c : Nat) (kind t now : Int) (Ab : Option Addr) (nb cb : Nat) (w : World) (hu : IsWaitsN 0 ws (.slice A n c) w) (y1 y2 y3 y4 : Int) (ws2 : List Wt) (hC : ∀ W, Below w.heap.size w W → Calls Try.prog 16 #[.agg #[.int .i64 x1, .int .i64 x2, .int .i64 x3, .int .i64 x4, .slice A n c], .int .i64 t, .int .i64 now, .slice Ab nb cb] W (Made y1 y2 y3 y4 0 ws2 W)) :
    Calls Try.prog 24 #[.agg #[.int .i64 x1, .int .i64 x2, .int .i64 x3, .int .i64 x4, .slice A n c], .agg #[.int .i64 0, .int .i64 t, .int .i64 now, .slice Ab nb cb]] w (DoneD y1 y2 y3 y4 ws2 [] false w) := by
  have hO3 : Own w _ [_, _, _] := Own.start3 w 25 41 25 #[.int .i64 x1, .int .i64 x2, .int .i64 x3, .int .i64 x4, .slice A n c] #[.int .i64 0, .int .i64 t, .int .i64 now, .slice Ab nb cb] #[.int .i64 0, .int .i64 0, .int .i64 0, .int .i64 0, .slice none 0 0]
  have hO : Own w _ [_, _, _, _] := Own.start4 w 25 41 25 25 #[.int .i64 x1, .int .i64 x2, .int .i64 x3, .int .i64 x4, .slice A n c] #[.int .i64 0, .int .i64 t, .int .i64 now, .slice Ab nb cb] #[.int .i64 0, .int .i64 0, .int .i64 0, .int .i64 0, .slice none 0 0] #[.int .i64 0, .int .i64 0, .int .i64 0, .int .i64 0, .slice none 0 0]
  go_enter Try.func24, Try.ntmps24
  go_wp2_with (first
    | ((with_reducible refine own_loadg0 hO3 ?_ _ rfl rfl _ Try.underlying25 rfl (by kernel_rfl) ?_); (· first | rfl | (simp [Region.wanted, yielded]; done)); clear hO3)
    | ((with_reducible refine own_loadg0 hO ?_ _ rfl rfl _ Try.underlying25 rfl (by kernel_rfl) ?_); (· first | rfl | (simp [Region.wanted, yielded]; done)))
    | ((with_reducible refine own_loadg3 hO ?_ _ rfl rfl _ Try.underlying25 rfl (by kernel_rfl) ?_); (· first | rfl | (simp [Region.wanted, yielded]; done)))
    | ((with_reducible refine own_row3 #[.int .i64 x1, .int .i64 x2, .int .i64 x3, .int .i64 x4, .slice A n c] hO rfl _ _ rfl rfl rfl (by kernel_rfl) rfl ?_ ?_); (· (simp [Value.oneCell']; done)); intro wR hOR hszR hkR; replace hO := hOR; clear hOR hszR hkR; have hk0 := hO.b1.cell)
    | (go_at_call 16; (with_reducible refine (hC _ hO.below).mono ?_); rintro e w1 ⟨A2, n2, c2, rfl, hN, hb1⟩; replace hO := hO.grow hb1; clear hC hk0; have hk0 := hO.b1.cell)
    | ((with_reducible refine own_row3 #[.int .i64 y1, .int .i64 y2, .int .i64 y3, .int .i64 y4, .slice A2 n2 c2] hO rfl _ _ rfl rfl rfl (by kernel_rfl) rfl ?_ ?_); (· (simp [Value.oneCell']; done)); intro wR hOR hszR hkR; replace hN := hN.farT hO.b3 (by simp [is8]) hszR hkR; replace hO := hOR; clear hOR hszR hkR; have hk0 := hO.b1.cell)
    | ((with_reducible refine own_row2 #[.int .i64 y1, .int .i64 y2, .int .i64 y3, .int .i64 y4, .slice A2 n2 c2] hO rfl _ _ rfl rfl rfl (by kernel_rfl) rfl ?_ ?_); (· (simp [Value.oneCell']; done)); intro wR hOR hszR hkR; replace hN := hN.farT hO.b2 (by simp [is8]) hszR hkR; replace hO := hOR; clear hOR hszR hkR; have hk0 := hO.b1.cell)
    )
  exact bodyPost_ret (results_ctt Try.results24 _ _ _ _ _ _ _ rfl rfl rfl hO.b2 Try.underlying25 rfl (by kernel_rfl)) rfl ⟨A2, n2, c2, none, 0, 0, rfl, hN, PartsT.nil _ _, hO.below⟩
set_option maxHeartbeats 4000000 in
theorem done0_no (x1 x2 x3 x4 : Int) (ws : List Wt) (A : Option Addr) (n c : Nat) (kind t now : Int) (Ab : Option Addr) (nb cb : Nat) (w : World) (hu : IsWaitsN 0 ws (.slice A n c) w) (y1 y2 y3 y4 er : Int) (ws2 : List Wt) (her : er ≠ 0) (hC : ∀ W, Below w.heap.size w W → Calls Try.prog 16 #[.agg #[.int .i64 x1, .int .i64 x2, .int .i64 x3, .int .i64 x4, .slice A n c], .int .i64 t, .int .i64 now, .slice Ab nb cb] W (Made y1 y2 y3 y4 er ws2 W)) :
    Calls Try.prog 24 #[.agg #[.int .i64 x1, .int .i64 x2, .int .i64 x3, .int .i64 x4, .slice A n c], .agg #[.int .i64 0, .int .i64 t, .int .i64 now, .slice Ab nb cb]] w (DoneD x1 x2 x3 x4 ws [] false w) := by
  have hO3 : Own w _ [_, _, _] := Own.start3 w 25 41 25 #[.int .i64 x1, .int .i64 x2, .int .i64 x3, .int .i64 x4, .slice A n c] #[.int .i64 0, .int .i64 t, .int .i64 now, .slice Ab nb cb] #[.int .i64 0, .int .i64 0, .int .i64 0, .int .i64 0, .slice none 0 0]
  have hO : Own w _ [_, _, _, _] := Own.start4 w 25 41 25 25 #[.int .i64 x1, .int .i64 x2, .int .i64 x3, .int .i64 x4, .slice A n c] #[.int .i64 0, .int .i64 t, .int .i64 now, .slice Ab nb cb] #[.int .i64 0, .int .i64 0, .int .i64 0, .int .i64 0, .slice none 0 0] #[.int .i64 0, .int .i64 0, .int .i64 0, .int .i64 0, .slice none 0 0]
  have hed : decide (er = 0) = false := decide_eq_false her
  have hN := hu.grow hO.below
  go_enter Try.func24, Try.ntmps24
  go_wp2_with (first
    | ((with_reducible refine own_loadg0 hO3 ?_ _ rfl rfl _ Try.underlying25 rfl (by kernel_rfl) ?_); (· first | rfl | (simp [Region.wanted, yielded]; done)); clear hO3)
    | ((with_reducible refine own_loadg0 hO ?_ _ rfl rfl _ Try.underlying25 rfl (by kernel_rfl) ?_); (· first | rfl | (simp [Region.wanted, yielded]; done)))
    | ((with_reducible refine own_loadg3 hO ?_ _ rfl rfl _ Try.underlying25 rfl (by kernel_rfl) ?_); (· first | rfl | (simp [Region.wanted, yielded]; done)))
    | ((with_reducible refine own_row3 #[.int .i64 x1, .int .i64 x2, .int .i64 x3, .int .i64 x4, .slice A n c] hO rfl _ _ rfl rfl rfl (by kernel_rfl) rfl ?_ ?_); (· (simp [Value.oneCell']; done)); intro wR hOR hszR hkR; replace hN := hN.farT hO.b3 (by simp [is8]) hszR hkR; replace hO := hOR; clear hOR hszR hkR; have hk0 := hO.b1.cell)
    | (go_at_call 16; (with_reducible refine (hC _ hO.below).mono ?_); rintro e w1 ⟨A2, n2, c2, rfl, _, hb1⟩; replace hO := hO.grow hb1; replace hN := hN.grow hb1; clear hC hk0; have hk0 := hO.b1.cell)
    | ((with_reducible refine own_row3 #[.int .i64 y1, .int .i64 y2, .int .i64 y3, .int .i64 y4, .slice A2 n2 c2] hO rfl _ _ rfl rfl rfl (by kernel_rfl) rfl ?_ ?_); (· (simp [Value.oneCell']; done)); intro wR hOR hszR hkR; replace hN := hN.farT hO.b3 (by simp [is8]) hszR hkR; replace hO := hOR; clear hOR hszR hkR; have hk0 := hO.b1.cell)
    | ((with_reducible refine own_row2 #[.int .i64 x1, .int .i64 x2, .int .i64 x3, .int .i64 x4, .slice A n c] hO rfl _ _ rfl rfl rfl (by kernel_rfl) rfl ?_ ?_); (· (simp [Value.oneCell']; done)); intro wR hOR hszR hkR; replace hN := hN.farT hO.b2 (by simp [is8]) hszR hkR; replace hO := hOR; clear hOR hszR hkR; have hk0 := hO.b1.cell)
    )
  exact bodyPost_ret (results_ctt Try.results24 _ _ _ _ _ _ _ rfl rfl rfl hO.b2 Try.underlying25 rfl (by kernel_rfl)) rfl ⟨A, n, c, none, 0, 0, rfl, hN, PartsT.nil _ _, hO.below⟩
set_option maxHeartbeats 4000000 in
theorem done1_ok (x1 x2 x3 x4 : Int) (ws : List Wt) (A : Option Addr) (n c : Nat) (kind t now : Int) (Ab : Option Addr) (nb cb : Nat) (w : World) (hu : IsWaitsN 0 ws (.slice A n c) w) (y1 y2 y3 y4 : Int) (ws2 : List Wt) (hC : ∀ W, Below w.heap.size w W → Calls Try.prog 14 #[.agg #[.int .i64 x1, .int .i64 x2, .int .i64 x3, .int .i64 x4, .slice A n c], .int .i64 t] W (Made y1 y2 y3 y4 0 ws2 W)) :
    Calls Try.prog 24 #[.agg #[.int .i64 x1, .int .i64 x2, .int .i64 x3, .int .i64 x4, .slice A n c], .agg #[.int .i64 1, .int .i64 t, .int .i64 now, .slice Ab nb cb]] w (DoneD y1 y2 y3 y4 ws2 [] false w) := by
  have hO3 : Own w _ [_, _, _] := Own.start3 w 25 41 25 #[.int .i64 x1, .int .i64 x2, .int .i64 x3, .int .i64 x4, .slice A n c] #[.int .i64 1, .int .i64 t, .int .i64 now, .slice Ab nb cb] #[.int .i64 0, .int .i64 0, .int .i64 0, .int .i64 0, .slice none 0 0]
  have hO : Own w _ [_, _, _, _] := Own.start4 w 25 41 25 25 #[.int .i64 x1, .int .i64 x2, .int .i64 x3, .int .i64 x4, .slice A n c] #[.int .i64 1, .int .i64 t, .int .i64 now, .slice Ab nb cb] #[.int .i64 0, .int .i64 0, .int .i64 0, .int .i64 0, .slice none 0 0] #[.int .i64 0, .int .i64 0, .int .i64 0, .int .i64 0, .slice none 0 0]
  go_enter Try.func24, Try.ntmps24
  go_wp2_with (first
    | ((with_reducible refine own_loadg0 hO3 ?_ _ rfl rfl _ Try.underlying25 rfl (by kernel_rfl) ?_); (· first | rfl | (simp [Region.wanted, yielded]; done)); clear hO3)
    | ((with_reducible refine own_loadg0 hO ?_ _ rfl rfl _ Try.underlying25 rfl (by kernel_rfl) ?_); (· first | rfl | (simp [Region.wanted, yielded]; done)))
    | ((with_reducible refine own_loadg3 hO ?_ _ rfl rfl _ Try.underlying25 rfl (by kernel_rfl) ?_); (· first | rfl | (simp [Region.wanted, yielded]; done)))
    | ((with_reducible refine own_row3 #[.int .i64 x1, .int .i64 x2, .int .i64 x3, .int .i64 x4, .slice A n c] hO rfl _ _ rfl rfl rfl (by kernel_rfl) rfl ?_ ?_); (· (simp [Value.oneCell']; done)); intro wR hOR hszR hkR; replace hO := hOR; clear hOR hszR hkR; have hk0 := hO.b1.cell)
    | (go_at_call 14; (with_reducible refine (hC _ hO.below).mono ?_); rintro e w1 ⟨A2, n2, c2, rfl, hN, hb1⟩; replace hO := hO.grow hb1; clear hC hk0; have hk0 := hO.b1.cell)
    | ((with_reducible refine own_row3 #[.int .i64 y1, .int .i64 y2, .int .i64 y3, .int .i64 y4, .slice A2 n2 c2] hO rfl _ _ rfl rfl rfl (by kernel_rfl) rfl ?_ ?_); (· (simp [Value.oneCell']; done)); intro wR hOR hszR hkR; replace hN := hN.farT hO.b3 (by simp [is8]) hszR hkR; replace hO := hOR; clear hOR hszR hkR; have hk0 := hO.b1.cell)
    | ((with_reducible refine own_row2 #[.int .i64 y1, .int .i64 y2, .int .i64 y3, .int .i64 y4, .slice A2 n2 c2] hO rfl _ _ rfl rfl rfl (by kernel_rfl) rfl ?_ ?_); (· (simp [Value.oneCell']; done)); intro wR hOR hszR hkR; replace hN := hN.farT hO.b2 (by simp [is8]) hszR hkR; replace hO := hOR; clear hOR hszR hkR; have hk0 := hO.b1.cell)
    )
  exact bodyPost_ret (results_ctt Try.results24 _ _ _ _ _ _ _ rfl rfl rfl hO.b2 Try.underlying25 rfl (by kernel_rfl)) rfl ⟨A2, n2, c2, none, 0, 0, rfl, hN, PartsT.nil _ _, hO.below⟩
set_option maxHeartbeats 4000000 in
theorem done1_no (x1 x2 x3 x4 : Int) (ws : List Wt) (A : Option Addr) (n c : Nat) (kind t now : Int) (Ab : Option Addr) (nb cb : Nat) (w : World) (hu : IsWaitsN 0 ws (.slice A n c) w) (y1 y2 y3 y4 er : Int) (ws2 : List Wt) (her : er ≠ 0) (hC : ∀ W, Below w.heap.size w W → Calls Try.prog 14 #[.agg #[.int .i64 x1, .int .i64 x2, .int .i64 x3, .int .i64 x4, .slice A n c], .int .i64 t] W (Made y1 y2 y3 y4 er ws2 W)) :
    Calls Try.prog 24 #[.agg #[.int .i64 x1, .int .i64 x2, .int .i64 x3, .int .i64 x4, .slice A n c], .agg #[.int .i64 1, .int .i64 t, .int .i64 now, .slice Ab nb cb]] w (DoneD x1 x2 x3 x4 ws [] false w) := by
  have hO3 : Own w _ [_, _, _] := Own.start3 w 25 41 25 #[.int .i64 x1, .int .i64 x2, .int .i64 x3, .int .i64 x4, .slice A n c] #[.int .i64 1, .int .i64 t, .int .i64 now, .slice Ab nb cb] #[.int .i64 0, .int .i64 0, .int .i64 0, .int .i64 0, .slice none 0 0]
  have hO : Own w _ [_, _, _, _] := Own.start4 w 25 41 25 25 #[.int .i64 x1, .int .i64 x2, .int .i64 x3, .int .i64 x4, .slice A n c] #[.int .i64 1, .int .i64 t, .int .i64 now, .slice Ab nb cb] #[.int .i64 0, .int .i64 0, .int .i64 0, .int .i64 0, .slice none 0 0] #[.int .i64 0, .int .i64 0, .int .i64 0, .int .i64 0, .slice none 0 0]
  have hed : decide (er = 0) = false := decide_eq_false her
  have hN := hu.grow hO.below
  go_enter Try.func24, Try.ntmps24
  go_wp2_with (first
    | ((with_reducible refine own_loadg0 hO3 ?_ _ rfl rfl _ Try.underlying25 rfl (by kernel_rfl) ?_); (· first | rfl | (simp [Region.wanted, yielded]; done)); clear hO3)
    | ((with_reducible refine own_loadg0 hO ?_ _ rfl rfl _ Try.underlying25 rfl (by kernel_rfl) ?_); (· first | rfl | (simp [Region.wanted, yielded]; done)))
    | ((with_reducible refine own_loadg3 hO ?_ _ rfl rfl _ Try.underlying25 rfl (by kernel_rfl) ?_); (· first | rfl | (simp [Region.wanted, yielded]; done)))
    | ((with_reducible refine own_row3 #[.int .i64 x1, .int .i64 x2, .int .i64 x3, .int .i64 x4, .slice A n c] hO rfl _ _ rfl rfl rfl (by kernel_rfl) rfl ?_ ?_); (· (simp [Value.oneCell']; done)); intro wR hOR hszR hkR; replace hN := hN.farT hO.b3 (by simp [is8]) hszR hkR; replace hO := hOR; clear hOR hszR hkR; have hk0 := hO.b1.cell)
    | (go_at_call 14; (with_reducible refine (hC _ hO.below).mono ?_); rintro e w1 ⟨A2, n2, c2, rfl, _, hb1⟩; replace hO := hO.grow hb1; replace hN := hN.grow hb1; clear hC hk0; have hk0 := hO.b1.cell)
    | ((with_reducible refine own_row3 #[.int .i64 y1, .int .i64 y2, .int .i64 y3, .int .i64 y4, .slice A2 n2 c2] hO rfl _ _ rfl rfl rfl (by kernel_rfl) rfl ?_ ?_); (· (simp [Value.oneCell']; done)); intro wR hOR hszR hkR; replace hN := hN.farT hO.b3 (by simp [is8]) hszR hkR; replace hO := hOR; clear hOR hszR hkR; have hk0 := hO.b1.cell)
    | ((with_reducible refine own_row2 #[.int .i64 x1, .int .i64 x2, .int .i64 x3, .int .i64 x4, .slice A n c] hO rfl _ _ rfl rfl rfl (by kernel_rfl) rfl ?_ ?_); (· (simp [Value.oneCell']; done)); intro wR hOR hszR hkR; replace hN := hN.farT hO.b2 (by simp [is8]) hszR hkR; replace hO := hOR; clear hOR hszR hkR; have hk0 := hO.b1.cell)
    )
  exact bodyPost_ret (results_ctt Try.results24 _ _ _ _ _ _ _ rfl rfl rfl hO.b2 Try.underlying25 rfl (by kernel_rfl)) rfl ⟨A, n, c, none, 0, 0, rfl, hN, PartsT.nil _ _, hO.below⟩
set_option maxHeartbeats 4000000 in
theorem done2_ok (x1 x2 x3 x4 : Int) (ws : List Wt) (A : Option Addr) (n c : Nat) (kind t now : Int) (Ab : Option Addr) (nb cb : Nat) (w : World) (hu : IsWaitsN 0 ws (.slice A n c) w) (y1 y2 y3 y4 : Int) (ws2 : List Wt) (hC : ∀ W, Below w.heap.size w W → Calls Try.prog 19 #[.agg #[.int .i64 x1, .int .i64 x2, .int .i64 x3, .int .i64 x4, .slice A n c], .int .i64 now] W (Made y1 y2 y3 y4 0 ws2 W)) :
    Calls Try.prog 24 #[.agg #[.int .i64 x1, .int .i64 x2, .int .i64 x3, .int .i64 x4, .slice A n c], .agg #[.int .i64 2, .int .i64 t, .int .i64 now, .slice Ab nb cb]] w (DoneD y1 y2 y3 y4 ws2 [] false w) := by
  have hO3 : Own w _ [_, _, _] := Own.start3 w 25 41 25 #[.int .i64 x1, .int .i64 x2, .int .i64 x3, .int .i64 x4, .slice A n c] #[.int .i64 2, .int .i64 t, .int .i64 now, .slice Ab nb cb] #[.int .i64 0, .int .i64 0, .int .i64 0, .int .i64 0, .slice none 0 0]
  have hO : Own w _ [_, _, _, _] := Own.start4 w 25 41 25 25 #[.int .i64 x1, .int .i64 x2, .int .i64 x3, .int .i64 x4, .slice A n c] #[.int .i64 2, .int .i64 t, .int .i64 now, .slice Ab nb cb] #[.int .i64 0, .int .i64 0, .int .i64 0, .int .i64 0, .slice none 0 0] #[.int .i64 0, .int .i64 0, .int .i64 0, .int .i64 0, .slice none 0 0]
  go_enter Try.func24, Try.ntmps24
  go_wp2_with (first
    | ((with_reducible refine own_loadg0 hO3 ?_ _ rfl rfl _ Try.underlying25 rfl (by kernel_rfl) ?_); (· first | rfl | (simp [Region.wanted, yielded]; done)); clear hO3)
    | ((with_reducible refine own_loadg0 hO ?_ _ rfl rfl _ Try.underlying25 rfl (by kernel_rfl) ?_); (· first | rfl | (simp [Region.wanted, yielded]; done)))
    | ((with_reducible refine own_loadg3 hO ?_ _ rfl rfl _ Try.underlying25 rfl (by kernel_rfl) ?_); (· first | rfl | (simp [Region.wanted, yielded]; done)))
    | ((with_reducible refine own_row3 #[.int .i64 x1, .int .i64 x2, .int .i64 x3, .int .i64 x4, .slice A n c] hO rfl _ _ rfl rfl rfl (by kernel_rfl) rfl ?_ ?_); (· (simp [Value.oneCell']; done)); intro wR hOR hszR hkR; replace hO := hOR; clear hOR hszR hkR; have hk0 := hO.b1.cell)
    | (go_at_call 19; (with_reducible refine (hC _ hO.below).mono ?_); rintro e w1 ⟨A2, n2, c2, rfl, hN, hb1⟩; replace hO := hO.grow hb1; clear hC hk0; have hk0 := hO.b1.cell)
    | ((with_reducible refine own_row3 #[.int .i64 y1, .int .i64 y2, .int .i64 y3, .int .i64 y4, .slice A2 n2 c2] hO rfl _ _ rfl rfl rfl (by kernel_rfl) rfl ?_ ?_); (· (simp [Value.oneCell']; done)); intro wR hOR hszR hkR; replace hN := hN.farT hO.b3 (by simp [is8]) hszR hkR; replace hO := hOR; clear hOR hszR hkR; have hk0 := hO.b1.cell)
    | ((with_reducible refine own_row2 #[.int .i64 y1, .int .i64 y2, .int .i64 y3, .int .i64 y4, .slice A2 n2 c2] hO rfl _ _ rfl rfl rfl (by kernel_rfl) rfl ?_ ?_); (· (simp [Value.oneCell']; done)); intro wR hOR hszR hkR; replace hN := hN.farT hO.b2 (by simp [is8]) hszR hkR; replace hO := hOR; clear hOR hszR hkR; have hk0 := hO.b1.cell)
    )
  exact bodyPost_ret (results_ctt Try.results24 _ _ _ _ _ _ _ rfl rfl rfl hO.b2 Try.underlying25 rfl (by kernel_rfl)) rfl ⟨A2, n2, c2, none, 0, 0, rfl, hN, PartsT.nil _ _, hO.below⟩
set_option maxHeartbeats 4000000 in
theorem done2_no (x1 x2 x3 x4 : Int) (ws : List Wt) (A : Option Addr) (n c : Nat) (kind t now : Int) (Ab : Option Addr) (nb cb : Nat) (w : World) (hu : IsWaitsN 0 ws (.slice A n c) w) (y1 y2 y3 y4 er : Int) (ws2 : List Wt) (her : er ≠ 0) (hC : ∀ W, Below w.heap.size w W → Calls Try.prog 19 #[.agg #[.int .i64 x1, .int .i64 x2, .int .i64 x3, .int .i64 x4, .slice A n c], .int .i64 now] W (Made y1 y2 y3 y4 er ws2 W)) :
    Calls Try.prog 24 #[.agg #[.int .i64 x1, .int .i64 x2, .int .i64 x3, .int .i64 x4, .slice A n c], .agg #[.int .i64 2, .int .i64 t, .int .i64 now, .slice Ab nb cb]] w (DoneD x1 x2 x3 x4 ws [] false w) := by
  have hO3 : Own w _ [_, _, _] := Own.start3 w 25 41 25 #[.int .i64 x1, .int .i64 x2, .int .i64 x3, .int .i64 x4, .slice A n c] #[.int .i64 2, .int .i64 t, .int .i64 now, .slice Ab nb cb] #[.int .i64 0, .int .i64 0, .int .i64 0, .int .i64 0, .slice none 0 0]
  have hO : Own w _ [_, _, _, _] := Own.start4 w 25 41 25 25 #[.int .i64 x1, .int .i64 x2, .int .i64 x3, .int .i64 x4, .slice A n c] #[.int .i64 2, .int .i64 t, .int .i64 now, .slice Ab nb cb] #[.int .i64 0, .int .i64 0, .int .i64 0, .int .i64 0, .slice none 0 0] #[.int .i64 0, .int .i64 0, .int .i64 0, .int .i64 0, .slice none 0 0]
  have hed : decide (er = 0) = false := decide_eq_false her
  have hN := hu.grow hO.below
  go_enter Try.func24, Try.ntmps24
  go_wp2_with (first
    | ((with_reducible refine own_loadg0 hO3 ?_ _ rfl rfl _ Try.underlying25 rfl (by kernel_rfl) ?_); (· first | rfl | (simp [Region.wanted, yielded]; done)); clear hO3)
    | ((with_reducible refine own_loadg0 hO ?_ _ rfl rfl _ Try.underlying25 rfl (by kernel_rfl) ?_); (· first | rfl | (simp [Region.wanted, yielded]; done)))
    | ((with_reducible refine own_loadg3 hO ?_ _ rfl rfl _ Try.underlying25 rfl (by kernel_rfl) ?_); (· first | rfl | (simp [Region.wanted, yielded]; done)))
    | ((with_reducible refine own_row3 #[.int .i64 x1, .int .i64 x2, .int .i64 x3, .int .i64 x4, .slice A n c] hO rfl _ _ rfl rfl rfl (by kernel_rfl) rfl ?_ ?_); (· (simp [Value.oneCell']; done)); intro wR hOR hszR hkR; replace hN := hN.farT hO.b3 (by simp [is8]) hszR hkR; replace hO := hOR; clear hOR hszR hkR; have hk0 := hO.b1.cell)
    | (go_at_call 19; (with_reducible refine (hC _ hO.below).mono ?_); rintro e w1 ⟨A2, n2, c2, rfl, _, hb1⟩; replace hO := hO.grow hb1; replace hN := hN.grow hb1; clear hC hk0; have hk0 := hO.b1.cell)
    | ((with_reducible refine own_row3 #[.int .i64 y1, .int .i64 y2, .int .i64 y3, .int .i64 y4, .slice A2 n2 c2] hO rfl _ _ rfl rfl rfl (by kernel_rfl) rfl ?_ ?_); (· (simp [Value.oneCell']; done)); intro wR hOR hszR hkR; replace hN := hN.farT hO.b3 (by simp [is8]) hszR hkR; replace hO := hOR; clear hOR hszR hkR; have hk0 := hO.b1.cell)
    | ((with_reducible refine own_row2 #[.int .i64 x1, .int .i64 x2, .int .i64 x3, .int .i64 x4, .slice A n c] hO rfl _ _ rfl rfl rfl (by kernel_rfl) rfl ?_ ?_); (· (simp [Value.oneCell']; done)); intro wR hOR hszR hkR; replace hN := hN.farT hO.b2 (by simp [is8]) hszR hkR; replace hO := hOR; clear hOR hszR hkR; have hk0 := hO.b1.cell)
    )
  exact bodyPost_ret (results_ctt Try.results24 _ _ _ _ _ _ _ rfl rfl rfl hO.b2 Try.underlying25 rfl (by kernel_rfl)) rfl ⟨A, n, c, none, 0, 0, rfl, hN, PartsT.nil _ _, hO.below⟩
set_option maxHeartbeats 4000000 in
theorem done3_ok (x1 x2 x3 x4 : Int) (ws : List Wt) (A : Option Addr) (n c : Nat) (kind t now : Int) (Ab : Option Addr) (nb cb : Nat) (w : World) (hu : IsWaitsN 0 ws (.slice A n c) w) (y1 y2 y3 y4 : Int) (ws2 : List Wt) (bss : List (List UInt8)) (b : Bool) (hC : ∀ W, Below w.heap.size w W → Calls Try.prog 15 #[.agg #[.int .i64 x1, .int .i64 x2, .int .i64 x3, .int .i64 x4, .slice A n c], .int .i64 now] W (MadeT y1 y2 y3 y4 0 ws2 bss b W)) :
    Calls Try.prog 24 #[.agg #[.int .i64 x1, .int .i64 x2, .int .i64 x3, .int .i64 x4, .slice A n c], .agg #[.int .i64 3, .int .i64 t, .int .i64 now, .slice Ab nb cb]] w (DoneD y1 y2 y3 y4 ws2 bss b w) := by
  have hO3 : Own w _ [_, _, _] := Own.start3 w 25 41 25 #[.int .i64 x1, .int .i64 x2, .int .i64 x3, .int .i64 x4, .slice A n c] #[.int .i64 3, .int .i64 t, .int .i64 now, .slice Ab nb cb] #[.int .i64 0, .int .i64 0, .int .i64 0, .int .i64 0, .slice none 0 0]
  have hO : Own w _ [_, _, _, _] := Own.start4 w 25 41 25 25 #[.int .i64 x1, .int .i64 x2, .int .i64 x3, .int .i64 x4, .slice A n c] #[.int .i64 3, .int .i64 t, .int .i64 now, .slice Ab nb cb] #[.int .i64 0, .int .i64 0, .int .i64 0, .int .i64 0, .slice none 0 0] #[.int .i64 0, .int .i64 0, .int .i64 0, .int .i64 0, .slice none 0 0]
  go_enter Try.func24, Try.ntmps24
  go_wp2_with (first
    | ((with_reducible refine own_loadg0 hO3 ?_ _ rfl rfl _ Try.underlying25 rfl (by kernel_rfl) ?_); (· first | rfl | (simp [Region.wanted, yielded]; done)); clear hO3)
    | ((with_reducible refine own_loadg0 hO ?_ _ rfl rfl _ Try.underlying25 rfl (by kernel_rfl) ?_); (· first | rfl | (simp [Region.wanted, yielded]; done)))
    | ((with_reducible refine own_loadg3 hO ?_ _ rfl rfl _ Try.underlying25 rfl (by kernel_rfl) ?_); (· first | rfl | (simp [Region.wanted, yielded]; done)))
    | ((with_reducible refine own_row3 #[.int .i64 x1, .int .i64 x2, .int .i64 x3, .int .i64 x4, .slice A n c] hO rfl _ _ rfl rfl rfl (by kernel_rfl) rfl ?_ ?_); (· (simp [Value.oneCell']; done)); intro wR hOR hszR hkR; replace hO := hOR; clear hOR hszR hkR; have hk0 := hO.b1.cell)
    | (go_at_call 15; (with_reducible refine (hC _ hO.below).mono ?_); rintro e w1 ⟨A2, n2, c2, Ao, q, co, rfl, hN, hP, hb1⟩; replace hO := hO.grow hb1; clear hC hk0; have hk0 := hO.b1.cell)
    | ((with_reducible refine own_row3 #[.int .i64 y1, .int .i64 y2, .int .i64 y3, .int .i64 y4, .slice A2 n2 c2] hO rfl _ _ rfl rfl rfl (by kernel_rfl) rfl ?_ ?_); (· (simp [Value.oneCell']; done)); intro wR hOR hszR hkR; replace hN := hN.farT hO.b3 (by simp [is8]) hszR hkR; replace hP := hP.farO hO hOR hO.b3 hszR hkR; replace hO := hOR; clear hOR hszR hkR; have hk0 := hO.b1.cell)
    | ((with_reducible refine own_row2 #[.int .i64 y1, .int .i64 y2, .int .i64 y3, .int .i64 y4, .slice A2 n2 c2] hO rfl _ _ rfl rfl rfl (by kernel_rfl) rfl ?_ ?_); (· (simp [Value.oneCell']; done)); intro wR hOR hszR hkR; replace hN := hN.farT hO.b2 (by simp [is8]) hszR hkR; replace hP := hP.farO hO hOR hO.b2 hszR hkR; replace hO := hOR; clear hOR hszR hkR; have hk0 := hO.b1.cell)
    )
  exact bodyPost_ret (results_ctt Try.results24 _ _ _ _ _ _ _ rfl rfl rfl hO.b2 Try.underlying25 rfl (by kernel_rfl)) rfl ⟨A2, n2, c2, Ao, q, co, rfl, hN, hP, hO.below⟩
set_option maxHeartbeats 4000000 in
theorem done3_no (x1 x2 x3 x4 : Int) (ws : List Wt) (A : Option Addr) (n c : Nat) (kind t now : Int) (Ab : Option Addr) (nb cb : Nat) (w : World) (hu : IsWaitsN 0 ws (.slice A n c) w) (y1 y2 y3 y4 er : Int) (ws2 : List Wt) (bss : List (List UInt8)) (b : Bool) (her : er ≠ 0) (hC : ∀ W, Below w.heap.size w W → Calls Try.prog 15 #[.agg #[.int .i64 x1, .int .i64 x2, .int .i64 x3, .int .i64 x4, .slice A n c], .int .i64 now] W (MadeT y1 y2 y3 y4 er ws2 bss b W)) :
    Calls Try.prog 24 #[.agg #[.int .i64 x1, .int .i64 x2, .int .i64 x3, .int .i64 x4, .slice A n c], .agg #[.int .i64 3, .int .i64 t, .int .i64 now, .slice Ab nb cb]] w (DoneD x1 x2 x3 x4 ws [] false w) := by
  have hO3 : Own w _ [_, _, _] := Own.start3 w 25 41 25 #[.int .i64 x1, .int .i64 x2, .int .i64 x3, .int .i64 x4, .slice A n c] #[.int .i64 3, .int .i64 t, .int .i64 now, .slice Ab nb cb] #[.int .i64 0, .int .i64 0, .int .i64 0, .int .i64 0, .slice none 0 0]
  have hO : Own w _ [_, _, _, _] := Own.start4 w 25 41 25 25 #[.int .i64 x1, .int .i64 x2, .int .i64 x3, .int .i64 x4, .slice A n c] #[.int .i64 3, .int .i64 t, .int .i64 now, .slice Ab nb cb] #[.int .i64 0, .int .i64 0, .int .i64 0, .int .i64 0, .slice none 0 0] #[.int .i64 0, .int .i64 0, .int .i64 0, .int .i64 0, .slice none 0 0]
  have hed : decide (er = 0) = false := decide_eq_false her
  have hN := hu.grow hO.below
  go_enter Try.func24, Try.ntmps24
  go_wp2_with (first
    | ((with_reducible refine own_loadg0 hO3 ?_ _ rfl rfl _ Try.underlying25 rfl (by kernel_rfl) ?_); (· first | rfl | (simp [Region.wanted, yielded]; done)); clear hO3)
    | ((with_reducible refine own_loadg0 hO ?_ _ rfl rfl _ Try.underlying25 rfl (by kernel_rfl) ?_); (· first | rfl | (simp [Region.wanted, yielded]; done)))
    | ((with_reducible refine own_loadg3 hO ?_ _ rfl rfl _ Try.underlying25 rfl (by kernel_rfl) ?_); (· first | rfl | (simp [Region.wanted, yielded]; done)))
    | ((with_reducible refine own_row3 #[.int .i64 x1, .int .i64 x2, .int .i64 x3, .int .i64 x4, .slice A n c] hO rfl _ _ rfl rfl rfl (by kernel_rfl) rfl ?_ ?_); (· (simp [Value.oneCell']; done)); intro wR hOR hszR hkR; replace hN := hN.farT hO.b3 (by simp [is8]) hszR hkR; replace hO := hOR; clear hOR hszR hkR; have hk0 := hO.b1.cell)
    | (go_at_call 15; (with_reducible refine (hC _ hO.below).mono ?_); rintro e w1 ⟨A2, n2, c2, Ao, q, co, rfl, _, _, hb1⟩; replace hO := hO.grow hb1; replace hN := hN.grow hb1; clear hC hk0; have hk0 := hO.b1.cell)
    | ((with_reducible refine own_row3 #[.int .i64 y1, .int .i64 y2, .int .i64 y3, .int .i64 y4, .slice A2 n2 c2] hO rfl _ _ rfl rfl rfl (by kernel_rfl) rfl ?_ ?_); (· (simp [Value.oneCell']; done)); intro wR hOR hszR hkR; replace hN := hN.farT hO.b3 (by simp [is8]) hszR hkR; replace hO := hOR; clear hOR hszR hkR; have hk0 := hO.b1.cell)
    | ((with_reducible refine own_row2 #[.int .i64 x1, .int .i64 x2, .int .i64 x3, .int .i64 x4, .slice A n c] hO rfl _ _ rfl rfl rfl (by kernel_rfl) rfl ?_ ?_); (· (simp [Value.oneCell']; done)); intro wR hOR hszR hkR; replace hN := hN.farT hO.b2 (by simp [is8]) hszR hkR; replace hO := hOR; clear hOR hszR hkR; have hk0 := hO.b1.cell)
    )
  exact bodyPost_ret (results_ctt Try.results24 _ _ _ _ _ _ _ rfl rfl rfl hO.b2 Try.underlying25 rfl (by kernel_rfl)) rfl ⟨A, n, c, none, 0, 0, rfl, hN, PartsT.nil _ _, hO.below⟩
set_option maxHeartbeats 4000000 in
theorem done4_ok (x1 x2 x3 x4 : Int) (ws : List Wt) (A : Option Addr) (n c : Nat) (kind t now : Int) (Ab : Option Addr) (nb cb : Nat) (w : World) (hu : IsWaitsN 0 ws (.slice A n c) w) (h0 : kind ≠ 0) (h1 : kind ≠ 1) (h2 : kind ≠ 2) (h3 : kind ≠ 3) :
    Calls Try.prog 24 #[.agg #[.int .i64 x1, .int .i64 x2, .int .i64 x3, .int .i64 x4, .slice A n c], .agg #[.int .i64 kind, .int .i64 t, .int .i64 now, .slice Ab nb cb]] w (DoneD x1 x2 x3 x4 ws [] false w) := by
  have hO3 : Own w _ [_, _, _] := Own.start3 w 25 41 25 #[.int .i64 x1, .int .i64 x2, .int .i64 x3, .int .i64 x4, .slice A n c] #[.int .i64 kind, .int .i64 t, .int .i64 now, .slice Ab nb cb] #[.int .i64 0, .int .i64 0, .int .i64 0, .int .i64 0, .slice none 0 0]
  have hO : Own w _ [_, _, _, _] := Own.start4 w 25 41 25 25 #[.int .i64 x1, .int .i64 x2, .int .i64 x3, .int .i64 x4, .slice A n c] #[.int .i64 kind, .int .i64 t, .int .i64 now, .slice Ab nb cb] #[.int .i64 0, .int .i64 0, .int .i64 0, .int .i64 0, .slice none 0 0] #[.int .i64 0, .int .i64 0, .int .i64 0, .int .i64 0, .slice none 0 0]
  have d0 : decide (kind = 0) = false := decide_eq_false h0
  have d1 : decide (kind = 1) = false := decide_eq_false h1
  have d2 : decide (kind = 2) = false := decide_eq_false h2
  have d3 : decide (kind = 3) = false := decide_eq_false h3
  have hN := hu.grow hO.below
  go_enter Try.func24, Try.ntmps24
  go_wp2_with (first
    | ((with_reducible refine own_loadg0 hO3 ?_ _ rfl rfl _ Try.underlying25 rfl (by kernel_rfl) ?_); (· first | rfl | (simp [Region.wanted, yielded]; done)); clear hO3)
    | ((with_reducible refine own_loadg0 hO ?_ _ rfl rfl _ Try.underlying25 rfl (by kernel_rfl) ?_); (· first | rfl | (simp [Region.wanted, yielded]; done)))
    | ((with_reducible refine own_loadg3 hO ?_ _ rfl rfl _ Try.underlying25 rfl (by kernel_rfl) ?_); (· first | rfl | (simp [Region.wanted, yielded]; done)))
    | ((with_reducible refine own_row3 #[.int .i64 x1, .int .i64 x2, .int .i64 x3, .int .i64 x4, .slice A n c] hO rfl _ _ rfl rfl rfl (by kernel_rfl) rfl ?_ ?_); (· (simp [Value.oneCell']; done)); intro wR hOR hszR hkR; replace hN := hN.farT hO.b3 (by simp [is8]) hszR hkR; replace hO := hOR; clear hOR hszR hkR; have hk0 := hO.b1.cell)
    | ((with_reducible refine own_row2 #[.int .i64 x1, .int .i64 x2, .int .i64 x3, .int .i64 x4, .slice A n c] hO rfl _ _ rfl rfl rfl (by kernel_rfl) rfl ?_ ?_); (· (simp [Value.oneCell']; done)); intro wR hOR hszR hkR; replace hN := hN.farT hO.b2 (by simp [is8]) hszR hkR; replace hO := hOR; clear hOR hszR hkR; have hk0 := hO.b1.cell)
    )
  exact bodyPost_ret (results_ctt Try.results24 _ _ _ _ _ _ _ rfl rfl rfl hO.b2 Try.underlying25 rfl (by kernel_rfl)) rfl ⟨A, n, c, none, 0, 0, rfl, hN, PartsT.nil _ _, hO.below⟩
theorem RetL.made {l : Lk} {er : Int} {W w' : World} {e : Ending} (h : RetL l er W e w') : Made l.period l.most l.quiet l.heard er l.waits W e w' := by
  obtain ⟨v, rfl, hv, hb⟩ := h
  obtain ⟨u, rfl, A, c, xs, rfl, hx, hV⟩ := hv
  exact ⟨A, _, c, rfl, ⟨A, c, xs, rfl, hx, hV.mono (Nat.zero_le _)⟩, hb⟩
theorem RetT.made {l : Lk} {o : List (List UInt8)} {b : Bool} {er : Int} {W w' : World} {e : Ending} (h : RetT l o b er W e w') : MadeT l.period l.most l.quiet l.heard er l.waits o b W e w' := by
  obtain ⟨v, p, rfl, hv, hp, hb⟩ := h
  obtain ⟨u, rfl, A, c, xs, rfl, hx, hV⟩ := hv
  have ht := hp.t
  obtain ⟨Ao, co, vs, rfl, _⟩ := hp
  exact ⟨A, _, c, Ao, _, co, rfl, ⟨A, c, xs, rfl, hx, hV.mono (Nat.zero_le _)⟩, ht, hb⟩
theorem done_k (l : Lk) (o : OpL) (A : Option Addr) (n c : Nat) (Ab : Option Addr) (nb cb : Nat) (w : World) (hu : IsWaitsN 0 l.waits (.slice A n c) w) (hb : IsBytes o.body (.slice Ab nb cb) w) (h1 : -9223372036854775808 ≤ o.t) (h2 : o.t ≤ 9223372036854775807) :
    Calls Try.prog 24 #[.agg #[.int .i64 l.period, .int .i64 l.most, .int .i64 l.quiet, .int .i64 l.heard, .slice A n c], .agg #[.int .i64 o.kind, .int .i64 o.t, .int .i64 o.now, .slice Ab nb cb]] w (DoneD (stepL l o).period (stepL l o).most (stepL l o).quiet (stepL l o).heard (stepL l o).waits (stepO l o) (stepB l o) w) := by
  obtain ⟨kind, t, now, body⟩ := o
  simp only at hb h1 h2 ⊢
  by_cases k0 : kind = 0
  · subst k0
    have eO : stepO l ⟨0, t, now, body⟩ = [] := rfl
    have eB : stepB l ⟨0, t, now, body⟩ = false := rfl
    have hC := fun W (hw : Below w.heap.size w W) => (lksent_u l (.slice A n c) t now (.slice Ab nb cb) body W (hu.is.grow hw) (hb.grow hw) h1 h2).mono fun e w' h => h.made
    rw [eO, eB]
    by_cases he : sentE l t now body = 0
    · have eL : stepL l ⟨0, t, now, body⟩ = sentL l t now body := by simp [stepL, he]
      rw [eL]
      rw [he] at hC
      exact done0_ok _ _ _ _ _ A n c 0 t now Ab nb cb w hu _ _ _ _ _ hC
    · have eL : stepL l ⟨0, t, now, body⟩ = l := by simp [stepL, he]
      rw [eL]
      exact done0_no _ _ _ _ _ A n c 0 t now Ab nb cb w hu _ _ _ _ _ _ he hC
  by_cases k1 : kind = 1
  · subst k1
    have eO : stepO l ⟨1, t, now, body⟩ = [] := rfl
    have eB : stepB l ⟨1, t, now, body⟩ = false := rfl
    have hC := fun W (hw : Below w.heap.size w W) => (lkacked_u l (.slice A n c) t W (hu.is.grow hw) h1 h2).mono fun e w' h => h.made
    rw [eO, eB]
    by_cases he : ackedE l t = 0
    · have eL : stepL l ⟨1, t, now, body⟩ = ackedL l t := by simp [stepL, he]
      rw [eL]
      rw [he] at hC
      exact done1_ok _ _ _ _ _ A n c 1 t now Ab nb cb w hu _ _ _ _ _ hC
    · have eL : stepL l ⟨1, t, now, body⟩ = l := by simp [stepL, he]
      rw [eL]
      exact done1_no _ _ _ _ _ A n c 1 t now Ab nb cb w hu _ _ _ _ _ _ he hC
  by_cases k2 : kind = 2
  · subst k2
    have eO : stepO l ⟨2, t, now, body⟩ = [] := rfl
    have eB : stepB l ⟨2, t, now, body⟩ = false := rfl
    have hC := fun W (hw : Below w.heap.size w W) => (lkheard_u l (.slice A n c) now W (hu.is.grow hw)).mono fun e w' h => h.made
    rw [eO, eB]
    by_cases he : heardE l now = 0
    · have eL : stepL l ⟨2, t, now, body⟩ = heardL l now := by simp [stepL, he]
      rw [eL]
      rw [he] at hC
      exact done2_ok _ _ _ _ _ A n c 2 t now Ab nb cb w hu _ _ _ _ _ hC
    · have eL : stepL l ⟨2, t, now, body⟩ = l := by simp [stepL, he]
      rw [eL]
      exact done2_no _ _ _ _ _ A n c 2 t now Ab nb cb w hu _ _ _ _ _ _ he hC
  by_cases k3 : kind = 3
  · subst k3
    have eO : stepO l ⟨3, t, now, body⟩ = tickO l now := rfl
    have eB : stepB l ⟨3, t, now, body⟩ = tickB l now := rfl
    have hC := fun W (hw : Below w.heap.size w W) => (lktick_u l (.slice A n c) now W (hu.is.grow hw)).mono fun e w' h => h.made
    rw [eO, eB]
    by_cases he : heardE l now = 0
    · have eL : stepL l ⟨3, t, now, body⟩ = tickL l now := by simp [stepL, he]
      rw [eL]
      rw [he] at hC
      exact done3_ok _ _ _ _ _ A n c 3 t now Ab nb cb w hu _ _ _ _ _ _ _ hC
    · have eL : stepL l ⟨3, t, now, body⟩ = l := by simp [stepL, he]
      have e2 : tickO l now = [] := by unfold tickO; rw [if_neg he]
      have e3 : tickB l now = false := by unfold tickB; rw [if_neg he]
      rw [eL]
      have h0 := done3_no l.period l.most l.quiet l.heard l.waits A n c 3 t now Ab nb cb w hu _ _ _ _ _ _ _ _ he hC
      rw [e2, e3]
      exact h0
  · have eO : stepO l ⟨kind, t, now, body⟩ = [] := by simp [stepO, k3]
    have eB : stepB l ⟨kind, t, now, body⟩ = false := by simp [stepB, k3]
    have eL : stepL l ⟨kind, t, now, body⟩ = l := by simp [stepL, k0, k1, k2, k3]
    rw [eO, eB, eL]
    exact done4_ok _ _ _ _ _ A n c kind t now Ab nb cb w hu k0 k1 k2 k3
end Go.Proofs.Ytiloammjejggjaa
