/- LinkDoes: any call, of any link, answers what the document says; what was handed in stays. -/
import Derived.Test.YtiloammjejggjaaLinkAwake
import Derived.Test.YtiloammjejggjaaLinkRefTick
import Derived.Test.YtiloammjejggjaaLinkOpsIn
import Derived.Test.YtiloammjejggjaaLawAid
set_option linter.unusedSimpArgs false
set_option linter.unusedVariables false
namespace Go.Proofs.Ytiloammjejggjaa
open Go.ChangeShapes Go.WideShapes Go.ChangeAt Go.RowKit
open Go.ChangeMaps (open_string shut_string)

/-- A call as it comes in: its time, the clock, its body. -/
structure OpV where
  kind : Int
  t : Int
  now : Int
  body : List UInt8
def IsOp (o : OpV) : Value → World → Prop := fun v w => ∃ A c, v = .agg #[.int .i64 o.kind, .int .i64 o.t, .int .i64 o.now, .slice A o.body.length c] ∧ Bytes w A c o.body ∧ -9223372036854775808 ≤ o.t ∧ o.t ≤ 9223372036854775807
theorem array4 {α : Type} {cs : Array α} (h : cs.size = 4) : ∃ c0 c1 c2 c3, cs = #[c0, c1, c2, c3] := by
  obtain ⟨l⟩ := cs
  match l, h with
  | [c0, c1, c2, c3], _ => exact ⟨c0, c1, c2, c3, rfl⟩
theorem open_op {H : Type} {enc : TypeId × Value → H} {w : World} {base : Nat} {r : Reach} {b0 : Nat} {v : Value} {d : DataW H} {p : List MemPlace} {held : Bool} (hv : Value.okWide Try.prog w r b0 41 v) (h : DataW.Trod enc Try.prog w base (fun _ => true) held 41 v d p) :
    ∃ o : OpV, IsOp o v w := by
  obtain ⟨cs, rfl, hsz⟩ := okWide_struct Try.underlying41 hv
  have hc4 : Try.prog.cellsOf 41 = 4 := by kernel_rfl
  have c3 : Try.prog.cellsOf 3 = 1 := by kernel_rfl
  have c23 : Try.prog.cellsOf 33 = 1 := by kernel_rfl
  obtain ⟨y0, y1, y2, y3, rfl⟩ := array4 (hsz.trans hc4)
  obtain ⟨fuel, hf⟩ := h
  obtain ⟨xs, n, _, _, _, hlen, hg⟩ := DataW.trod_struct Try.underlying41 hf
  match xs, hlen with
  | [x0, x1, x2, x3], _ =>
    obtain ⟨a, rfl⟩ := int_of_trod (v := y0) (x := x0) (by simpa [Value.cells, c3] using hg 0 _ rfl)
    obtain ⟨b, rfl, hb1, hb2⟩ := int_of_trodw (v := y1) (x := x1) (by simpa [Value.cells, c3] using hg 1 _ rfl)
    obtain ⟨c, rfl⟩ := int_of_trod (v := y2) (x := x2) (by simpa [Value.cells, c3] using hg 2 _ rfl)
    obtain ⟨bs, A, cc, rfl, hB⟩ := bytes_of_trod (v := y3) (x := x3) (by simpa [Value.cells, c23] using hg 3 _ rfl)
    exact ⟨⟨a, b, c, bs⟩, A, cc, rfl, hB, hb1, hb2⟩
/-- A link and an error handed back; a tick's four answers. -/
def RetU (y1 y2 y3 y4 er : Int) (ws : List Wt) (W : World) (e : Ending) (w' : World) : Prop := ∃ A n c, e = .returned (.tuple #[.agg #[.int .i64 y1, .int .i64 y2, .int .i64 y3, .int .i64 y4, .slice A n c], .int .i64 er]) ∧ IsWaits ws (.slice A n c) w' ∧ Below W.heap.size W w'
def RetQ (y1 y2 y3 y4 er : Int) (ws : List Wt) (bss : List (List UInt8)) (q : Nat) (b : Bool) (W : World) (e : Ending) (w' : World) : Prop := ∃ A n c Ao co, e = .returned (.tuple #[.agg #[.int .i64 y1, .int .i64 y2, .int .i64 y3, .int .i64 y4, .slice A n c], .slice Ao q co, .bool b, .int .i64 er]) ∧ IsWaits ws (.slice A n c) w' ∧ IsParts bss (.slice Ao q co) w' ∧ Below W.heap.size W w'
theorem IsWaits.form {ws : List Wt} {v : Value} {w : World} (h : IsWaits ws v w) : ∃ A n c, v = .slice A n c := by
  obtain ⟨A, c, xs, e, _⟩ := h
  exact ⟨A, _, c, e⟩
theorem RetL.u {l : Lk} {er : Int} {W : World} {e : Ending} {w' : World} (h : RetL l er W e w') : RetU l.period l.most l.quiet l.heard er l.waits W e w' := by
  obtain ⟨v, rfl, ⟨u, rfl, hu⟩, hb⟩ := h
  obtain ⟨A, n, c, rfl⟩ := hu.is.form
  exact ⟨A, n, c, rfl, hu.is, hb⟩
theorem RetR.u {l : Lk} {er : Int} {W : World} {e : Ending} {w' : World} (h : RetR l er W e w') : RetU l.period l.most l.quiet l.heard er l.waits W e w' := by
  obtain ⟨v, rfl, ⟨u, rfl, hu⟩, hb⟩ := h
  obtain ⟨A, n, c, rfl⟩ := hu.form
  exact ⟨A, n, c, rfl, hu, hb⟩
theorem RetT.q {l : Lk} {o : List (List UInt8)} {b : Bool} {er : Int} {W : World} {e : Ending} {w' : World} (h : RetT l o b er W e w') : RetQ l.period l.most l.quiet l.heard er l.waits o o.length b W e w' := by
  obtain ⟨v, u, rfl, ⟨u1, rfl, hu⟩, ho, hb⟩ := h
  obtain ⟨A, n, c, rfl⟩ := hu.is.form
  have ho' := ho.t.is
  obtain ⟨Ao, co, vs, rfl, h1⟩ := id ho'
  exact ⟨A, n, c, Ao, co, rfl, hu.is, ho', hb⟩
theorem RetRT.q {l : Lk} {o : List (List UInt8)} {b : Bool} {er : Int} {W : World} {e : Ending} {w' : World} (h : RetRT l o b er W e w') : RetQ l.period l.most l.quiet l.heard er l.waits o o.length b W e w' := by
  obtain ⟨v, u, rfl, ⟨u1, rfl, hu⟩, ho, hb⟩ := h
  obtain ⟨A, n, c, rfl⟩ := hu.form
  obtain ⟨Ao, co, vs, rfl, h1⟩ := id ho
  exact ⟨A, n, c, Ao, co, rfl, hu, ho, hb⟩
theorem IsParts.le {bss : List (List UInt8)} {A : Option Addr} {q c : Nat} {w : World} (h : IsParts bss (.slice A q c) w) : q ≤ 9223372036854775807 := by
  obtain ⟨A', c', vs, e, _, _, _, h1, h2⟩ := h
  simp only [Value.slice.injEq] at e
  obtain ⟨_, rfl, rfl⟩ := e
  simp only [maxLen] at h2
  omega
set_option maxRecDepth 100000 in
set_option maxHeartbeats 8000000 in
theorem linkDoes_early (l : Lk) (A : Option Addr) (n c : Nat) (xs : List (Wt × Value)) (kd t now : Int) (Ab : Option Addr) (nb cb : Nat) (w : World) (hx : xs.map (·.1) = l.waits) (hn : l.waits.length = n) (hW : WaitsAt w A xs) (hc : n ≤ 9223372036854775807) (he : ¬ (lightL l = true ∧ nb ≤ 2000)) :
    Calls Try.prog 5 #[.agg #[.int .i64 l.period, .int .i64 l.most, .int .i64 l.quiet, .int .i64 l.heard, .slice A n c], .agg #[.int .i64 kd, .int .i64 t, .int .i64 now, .slice Ab nb cb]] w fun e w' => e = .returned (.bool true) ∧ Below w.heap.size w w' := by
  have hO : Own w _ [_, _] := Own.start2 w 25 41 #[.int .i64 l.period, .int .i64 l.most, .int .i64 l.quiet, .int .i64 l.heard, .slice A n c] #[.int .i64 kd, .int .i64 t, .int .i64 now, .slice Ab nb cb]
  have hli := fun W (h : WaitsAt W A xs) => rllight_k l A n c xs W hx hn h hc
  generalize lightL l = b1 at *
  have hcase : b1 = false ∨ (b1 = true ∧ decide (2000 < (nb : Int)) = true) := by
    cases b1 <;> simp at he ⊢
    omega
  clear he hx hn
  rcases hcase with rfl | ⟨rfl, h1⟩
  all_goals
    go_enter Try.func5, Try.ntmps5
    go_wp2_with (first
      | (go_at_call 8; (with_reducible refine (awake12_any _).mono ?_); rintro e w1 ⟨rfl, hb1⟩; replace hO := hO.grow hb1)
      | ((with_reducible refine own_loadg0 hO ?_ _ rfl rfl _ Try.underlying25 rfl (by kernel_rfl) ?_); (· first | rfl | (simp [Region.wanted, yielded]; done)))
      | (go_at_call 12; (with_reducible refine (hli _ (hW.below hO.below)).mono ?_); rintro e w1 ⟨rfl, hb1⟩; replace hO := hO.grow hb1; have hco := hO.b1.cell)
      )
    go_ret
    exact ⟨rfl, hO.below⟩
set_option maxRecDepth 100000 in
set_option maxHeartbeats 16000000 in
theorem linkDoes_main (l : Lk) (A : Option Addr) (n c : Nat) (xs : List (Wt × Value)) (kd t now : Int) (Ab : Option Addr) (nb cb : Nat) (body : List UInt8) (w : World) (hx : xs.map (·.1) = l.waits) (hn : l.waits.length = n) (hW : WaitsAt w A xs) (hc : n ≤ 9223372036854775807) (hcp : n ≤ c ∧ c ≤ maxLen) (hlo : -9223372036854775808 ≤ t) (hhi : t ≤ 9223372036854775807) (hbn : body.length = nb) (hB : Bytes w Ab cb body) (hli0 : lightL l = true) (hnb : nb ≤ 2000) :
    Calls Try.prog 5 #[.agg #[.int .i64 l.period, .int .i64 l.most, .int .i64 l.quiet, .int .i64 l.heard, .slice A n c], .agg #[.int .i64 kd, .int .i64 t, .int .i64 now, .slice Ab nb cb]] w fun e w' => e = .returned (.bool true) ∧ Below w.heap.size w w' := by
  have hO : Own w _ [_, _] := Own.start2 w 25 41 #[.int .i64 l.period, .int .i64 l.most, .int .i64 l.quiet, .int .i64 l.heard, .slice A n c] #[.int .i64 kd, .int .i64 t, .int .i64 now, .slice Ab nb cb]
  have hli := fun W (h : WaitsAt W A xs) => rllight_k l A n c xs W hx hn h hc
  rw [hli0] at hli
  have hn50 : n ≤ 50 := by
    unfold lightL at hli0
    simp at hli0
    omega
  have hin : IsWaits l.waits (.slice A n c) w := ⟨A, c, xs, by rw [hn], hx, hW, by rw [hn]; exact hcp.1, hcp.2⟩
  obtain ⟨bm, hm1, hm2⟩ : ∃ bm, (∀ W A' c', IsWaits l.waits (.slice A' n c') W → Calls Try.prog 13 #[.agg #[.int .i64 l.period, .int .i64 l.most, .int .i64 l.quiet, .int .i64 l.heard, .slice A' n c']] W fun e w' => e = .returned (.bool bm) ∧ Below W.heap.size W w') ∧ (∀ W A' c', IsWaits l.waits (.slice A' n c') W → Calls Try.prog 23 #[.agg #[.int .i64 l.period, .int .i64 l.most, .int .i64 l.quiet, .int .i64 l.heard, .slice A' n c']] W fun e w' => e = .returned (.bool bm) ∧ Below W.heap.size W w') := by
    refine ⟨mayL l, fun W A' c' h => ?_, fun W A' c' h => ?_⟩
    · obtain ⟨A2, c2, xs', e, hx', hW', h1, h2⟩ := h
      simp only [Value.slice.injEq] at e
      obtain ⟨rfl, _, rfl⟩ := e
      exact lkmay_k l A' n c' xs' W hx' hn hW' hc
    · obtain ⟨A2, c2, xs', e, hx', hW', h1, h2⟩ := h
      simp only [Value.slice.injEq] at e
      obtain ⟨rfl, _, rfl⟩ := e
      exact rlmay_k l A' n c' xs' W hx' hn hW' hc
  obtain ⟨s1, s2, s3, s4, se, sw, hs1, hs2⟩ : ∃ y1 y2 y3 y4 ye yw, (∀ W A' c', IsWaits l.waits (.slice A' n c') W → Bytes W Ab cb body → Calls Try.prog 16 #[.agg #[.int .i64 l.period, .int .i64 l.most, .int .i64 l.quiet, .int .i64 l.heard, .slice A' n c'], .int .i64 t, .int .i64 now, .slice Ab nb cb] W (RetU y1 y2 y3 y4 ye yw W)) ∧ (∀ W A' c', IsWaits l.waits (.slice A' n c') W → Bytes W Ab cb body → Calls Try.prog 17 #[.agg #[.int .i64 l.period, .int .i64 l.most, .int .i64 l.quiet, .int .i64 l.heard, .slice A' n c'], .int .i64 t, .int .i64 now, .slice Ab nb cb] W (RetU y1 y2 y3 y4 ye yw W)) := by
    refine ⟨(sentL l t now body).period, (sentL l t now body).most, (sentL l t now body).quiet, (sentL l t now body).heard, sentE l t now body, (sentL l t now body).waits, fun W A' c' h hb' => ?_, fun W A' c' h hb' => ?_⟩
    · obtain ⟨A2, c2, xs', e, hx', hW', h1, h2⟩ := h
      simp only [Value.slice.injEq] at e
      obtain ⟨rfl, _, rfl⟩ := e
      exact (lksent_k l A' n c' xs' t now Ab nb cb body W hx' hn hW' hc hlo hhi hbn hb').mono fun e w' h => h.u
    · obtain ⟨A2, c2, xs', e, hx', hW', h1, h2⟩ := h
      simp only [Value.slice.injEq] at e
      obtain ⟨rfl, _, rfl⟩ := e
      exact (rlsent_k l A' n c' xs' t now Ab nb cb body W hx' hn hW' hc hbn hb').mono fun e w' h => h.u
  obtain ⟨k1, k2, k3, k4, ke, kw, hk1, hk2⟩ : ∃ y1 y2 y3 y4 ye yw, (∀ W A' c', IsWaits l.waits (.slice A' n c') W → Calls Try.prog 14 #[.agg #[.int .i64 l.period, .int .i64 l.most, .int .i64 l.quiet, .int .i64 l.heard, .slice A' n c'], .int .i64 t] W (RetU y1 y2 y3 y4 ye yw W)) ∧ (∀ W A' c', IsWaits l.waits (.slice A' n c') W → Calls Try.prog 18 #[.agg #[.int .i64 l.period, .int .i64 l.most, .int .i64 l.quiet, .int .i64 l.heard, .slice A' n c'], .int .i64 t] W (RetU y1 y2 y3 y4 ye yw W)) := by
    refine ⟨(ackedL l t).period, (ackedL l t).most, (ackedL l t).quiet, (ackedL l t).heard, ackedE l t, (ackedL l t).waits, fun W A' c' h => ?_, fun W A' c' h => ?_⟩
    · obtain ⟨A2, c2, xs', e, hx', hW', h1, h2⟩ := h
      simp only [Value.slice.injEq] at e
      obtain ⟨rfl, _, rfl⟩ := e
      exact (lkacked_k l A' n c' xs' t W hx' hn hW' hc hlo hhi).mono fun e w' h => h.u
    · obtain ⟨A2, c2, xs', e, hx', hW', h1, h2⟩ := h
      simp only [Value.slice.injEq] at e
      obtain ⟨rfl, _, rfl⟩ := e
      exact (rlacked_k l A' n c' xs' t W hx' hn hW' hc).mono fun e w' h => h.u
  obtain ⟨h1, h2, h3, h4, he, hw, hh1, hh2⟩ : ∃ y1 y2 y3 y4 ye yw, (∀ W A' c', IsWaits l.waits (.slice A' n c') W → Calls Try.prog 19 #[.agg #[.int .i64 l.period, .int .i64 l.most, .int .i64 l.quiet, .int .i64 l.heard, .slice A' n c'], .int .i64 now] W (RetU y1 y2 y3 y4 ye yw W)) ∧ (∀ W A' c', IsWaits l.waits (.slice A' n c') W → Calls Try.prog 20 #[.agg #[.int .i64 l.period, .int .i64 l.most, .int .i64 l.quiet, .int .i64 l.heard, .slice A' n c'], .int .i64 now] W (RetU y1 y2 y3 y4 ye yw W)) := by
    refine ⟨(heardL l now).period, (heardL l now).most, (heardL l now).quiet, (heardL l now).heard, heardE l now, (heardL l now).waits, fun W A' c' h => ?_, fun W A' c' h => ?_⟩
    · obtain ⟨A2, c2, xs', e, hx', hW', h1, h2⟩ := h
      simp only [Value.slice.injEq] at e
      obtain ⟨rfl, _, rfl⟩ := e
      exact (lkheard_k l A' n c' xs' now W hx' hn hW' hc).mono fun e w' h => h.u
    · obtain ⟨A2, c2, xs', e, hx', hW', h1, h2⟩ := h
      simp only [Value.slice.injEq] at e
      obtain ⟨rfl, _, rfl⟩ := e
      exact (rlheard_k l A' n c' xs' now W hx' hn hW' hc ⟨A', c', xs', by rw [hn], hx', hW', h1, h2⟩).mono fun e w' h => h.u
  obtain ⟨t1, t2, t3, t4, te, tw, tq, tn, tb, ht1, ht2⟩ : ∃ y1 y2 y3 y4 ye yw yq yn yb, (∀ W A' c', IsWaits l.waits (.slice A' n c') W → Calls Try.prog 15 #[.agg #[.int .i64 l.period, .int .i64 l.most, .int .i64 l.quiet, .int .i64 l.heard, .slice A' n c'], .int .i64 now] W (RetQ y1 y2 y3 y4 ye yw yq yn yb W)) ∧ (∀ W A' c', IsWaits l.waits (.slice A' n c') W → Calls Try.prog 21 #[.agg #[.int .i64 l.period, .int .i64 l.most, .int .i64 l.quiet, .int .i64 l.heard, .slice A' n c'], .int .i64 now] W (RetQ y1 y2 y3 y4 ye yw yq yn yb W)) := by
    refine ⟨(tickL l now).period, (tickL l now).most, (tickL l now).quiet, (tickL l now).heard, heardE l now, (tickL l now).waits, tickO l now, (tickO l now).length, tickB l now, fun W A' c' h => ?_, fun W A' c' h => ?_⟩
    · obtain ⟨A2, c2, xs', e, hx', hW', h1, h2⟩ := h
      simp only [Value.slice.injEq] at e
      obtain ⟨rfl, _, rfl⟩ := e
      exact (lktick_k l A' n c' xs' now W hx' hn hW' hc).mono fun e w' h => h.q
    · obtain ⟨A2, c2, xs', e, hx', hW', h1, h2⟩ := h
      simp only [Value.slice.injEq] at e
      obtain ⟨rfl, _, rfl⟩ := e
      exact (rltick_k l A' n c' xs' now W hx' hn hW' hc ⟨by rw [← hn]; exact h1, h2⟩).mono fun e w' h => h.q
  have hsm : ∀ y1 y2 y3 y4 yw W u v, IsWaits yw u W → IsWaits yw v W → Calls Try.prog 11 #[.agg #[.int .i64 y1, .int .i64 y2, .int .i64 y3, .int .i64 y4, u], .agg #[.int .i64 y1, .int .i64 y2, .int .i64 y3, .int .i64 y4, v]] W fun e w' => e = .returned (.bool true) ∧ Below W.heap.size W w' := fun y1 y2 y3 y4 yw W u v hu hv => rlsame_u ⟨y1, y2, y3, y4, yw⟩ u v W hu hv
  obtain ⟨ws, hws⟩ : ∃ ws, ws = l.waits := ⟨_, rfl⟩
  rw [← hws] at hx hn hin hm1 hm2 hs1 hs2 hk1 hk2 hh1 hh2 ht1 ht2
  clear hws hli0 hbn
  generalize l.period = x1 at *
  generalize l.most = x2 at *
  generalize l.quiet = x3 at *
  generalize l.heard = x4 at *
  have HX := Lib.hid hx
  have hxn : xs.length = n := by rw [← hn, ← hx, List.length_map]
  have HXN := Lib.hid hxn
  have HN := Lib.hid hn
  clear hx hn hxn
  have hd2 : decide (2000 < (nb : Int)) = false := by simp; omega
  go_enter Try.func5, Try.ntmps5
  go_wp2_with (first
    | (go_at_call 8; (with_reducible refine (awake12_any _).mono ?_); rintro e w1 ⟨rfl, hb1⟩; replace hO := hO.grow hb1; clear hb1)
    | ((with_reducible refine own_loadg0 hO ?_ _ rfl rfl _ Try.underlying25 rfl (by kernel_rfl) ?_); (· first | rfl | (simp [Region.wanted, yielded]; done)))
    | ((with_reducible refine own_loadg1 hO ?_ _ rfl rfl _ Try.underlying25 rfl (by kernel_rfl) ?_); (· first | rfl | (simp [Region.wanted, yielded]; done)))
    | ((with_reducible refine own_loadg2 hO ?_ _ rfl rfl _ Try.underlying25 rfl (by kernel_rfl) ?_); (· first | rfl | (simp [Region.wanted, yielded]; done)))
    | ((with_reducible refine own_loadg3 hO ?_ _ rfl rfl _ Try.underlying25 rfl (by kernel_rfl) ?_); (· first | rfl | (simp [Region.wanted, yielded]; done)))
    | ((with_reducible refine own_loadg4 hO ?_ _ rfl rfl _ Try.underlying25 rfl (by kernel_rfl) ?_); (· first | rfl | (simp [Region.wanted, yielded]; done)))
    | ((with_reducible refine own_loadg5 hO ?_ _ rfl rfl _ Try.underlying25 rfl (by kernel_rfl) ?_); (· first | rfl | (simp [Region.wanted, yielded]; done)))
    | ((with_reducible refine own_loadg6 hO ?_ _ rfl rfl _ Try.underlying25 rfl (by kernel_rfl) ?_); (· first | rfl | (simp [Region.wanted, yielded]; done)))
    | ((with_reducible refine own_loadg7 hO ?_ _ rfl rfl _ Try.underlying25 rfl (by kernel_rfl) ?_); (· first | rfl | (simp [Region.wanted, yielded]; done)))
    | ((with_reducible refine own_loadg8 hO ?_ _ rfl rfl _ Try.underlying25 rfl (by kernel_rfl) ?_); (· first | rfl | (simp [Region.wanted, yielded]; done)))
    | ((with_reducible refine own_loadg9 hO ?_ _ rfl rfl _ Try.underlying25 rfl (by kernel_rfl) ?_); (· first | rfl | (simp [Region.wanted, yielded]; done)))
    | ((with_reducible refine own_loadg10 hO ?_ _ rfl rfl _ Try.underlying25 rfl (by kernel_rfl) ?_); (· first | rfl | (simp [Region.wanted, yielded]; done)))
    | (go_at_call 12; (with_reducible refine (hli _ (hW.below hO.below)).mono ?_); rintro e w1 ⟨rfl, hb1⟩; replace hO := hO.grow hb1; clear hb1 hli; have hco := hO.b1.cell)
    | ((with_reducible refine own_row2 #[.int .i64 x1, .int .i64 x2, .int .i64 x3, .int .i64 x4, .slice A n c] (hO.new2 25 #[.int .i64 0, .int .i64 0, .int .i64 0, .int .i64 0, .slice none 0 0]) rfl _ _ rfl rfl rfl (by kernel_rfl) rfl ?_ ?_); (· (simp [Value.oneCell']; done)); intro wR hOR hszR hkR; replace hO := hOR; clear hOR hszR hkR hco; have hcl := hO.b0.cell)
    | (at_builtin; refine wpList_app_waits rfl _ _ rfl wR.heap.size none 0 [] 0 rfl rfl (OwnW.nil _ _) A c xs n rfl HXN.out.symm (hW.below hO.below).row (fun p hp => (hW.body p hp).one) (by have := HXN.out; simp; omega) (Nat.le_refl _) ?_; intro A2 c2 W2 hOw hg2 hb2; have hg7 := hO.b2.lt; replace hO := hO.grow hb2; clear hcl hg2; have hcl2 := hO.b2.cell)
    | ((with_reducible refine own_cell2 4 (.slice A2 n c2) hO rfl 23 _ _ rfl rfl rfl (by kernel_rfl) ?_ rfl ?_); (· (simp; done)); intro wR hOR hszR hkR; have hown : IsWaits ws (.slice A2 n c2) wR := OwnV.is ⟨hOw.far hg7 hkR, fun p hp => (hW.body p (by simpa using hp)).grow hOR.below⟩ (by simpa using HX.out) HN.out; replace hO := hOR; clear hOR hszR hkR hcl2 hOw hg7; have hco := hO.b1.cell)
    | (go_at_call 16; (with_reducible refine (hs1 _ _ _ (hin.grow hO.below) (hB.below hO.below)).mono ?_); rintro e wa ⟨Asa, nsa, csa, rfl, hua, hba⟩; replace hO := hO.grow hba; replace hown := hown.grow hba; clear hco hba hs1)
    | ((with_reducible refine own_row0 #[.int .i64 s1, .int .i64 s2, .int .i64 s3, .int .i64 s4, .slice Asa nsa csa] ((Own.nil wa).new0 25 #[.int .i64 0, .int .i64 0, .int .i64 0, .int .i64 0, .slice none 0 0]) rfl _ _ rfl rfl rfl (by kernel_rfl) rfl ?_ ?_); (· (simp [Value.oneCell']; done)); intro wR hOR hszR hkR; replace hO := Own.add hO hOR; replace hown := hown.grow hOR.below; replace hua := hua.grow hOR.below; clear hOR hszR hkR; have hco := hO.b1.cell)
    | (go_at_call 17; (with_reducible refine (hs2 _ _ _ hown (hB.below hO.below)).mono ?_); rintro e wb ⟨Asb, nsb, csb, rfl, hub, hbb⟩; replace hO := hO.grow hbb; replace hown := hown.grow hbb; replace hua := hua.grow hbb; clear hco hbb hs2)
    | ((with_reducible refine own_row0 #[.int .i64 s1, .int .i64 s2, .int .i64 s3, .int .i64 s4, .slice Asb nsb csb] ((Own.nil wb).new0 25 #[.int .i64 0, .int .i64 0, .int .i64 0, .int .i64 0, .slice none 0 0]) rfl _ _ rfl rfl rfl (by kernel_rfl) rfl ?_ ?_); (· (simp [Value.oneCell']; done)); intro wR hOR hszR hkR; replace hO := Own.add hO hOR; replace hown := hown.grow hOR.below; replace hua := hua.grow hOR.below; replace hub := hub.grow hOR.below; clear hOR hszR hkR; have hco := hO.b1.cell)
    | (go_at_call 11; (with_reducible refine (hsm s1 s2 s3 s4 sw _ (.slice Asa nsa csa) (.slice Asb nsb csb) hua hub).mono ?_); rintro e wc ⟨rfl, hbc⟩; replace hO := hO.grow hbc; replace hown := hown.grow hbc; clear hco hbc hua hub; have hco := hO.b1.cell)
    | (go_at_call 14; (with_reducible refine (hk1 _ _ _ (hin.grow hO.below)).mono ?_); rintro e wa ⟨Aka, nka, cka, rfl, hua, hba⟩; replace hO := hO.grow hba; replace hown := hown.grow hba; clear hco hba hk1)
    | ((with_reducible refine own_row0 #[.int .i64 k1, .int .i64 k2, .int .i64 k3, .int .i64 k4, .slice Aka nka cka] ((Own.nil wa).new0 25 #[.int .i64 0, .int .i64 0, .int .i64 0, .int .i64 0, .slice none 0 0]) rfl _ _ rfl rfl rfl (by kernel_rfl) rfl ?_ ?_); (· (simp [Value.oneCell']; done)); intro wR hOR hszR hkR; replace hO := Own.add hO hOR; replace hown := hown.grow hOR.below; replace hua := hua.grow hOR.below; clear hOR hszR hkR; have hco := hO.b1.cell)
    | (go_at_call 18; (with_reducible refine (hk2 _ _ _ hown).mono ?_); rintro e wb ⟨Akb, nkb, ckb, rfl, hub, hbb⟩; replace hO := hO.grow hbb; replace hown := hown.grow hbb; replace hua := hua.grow hbb; clear hco hbb hk2)
    | ((with_reducible refine own_row0 #[.int .i64 k1, .int .i64 k2, .int .i64 k3, .int .i64 k4, .slice Akb nkb ckb] ((Own.nil wb).new0 25 #[.int .i64 0, .int .i64 0, .int .i64 0, .int .i64 0, .slice none 0 0]) rfl _ _ rfl rfl rfl (by kernel_rfl) rfl ?_ ?_); (· (simp [Value.oneCell']; done)); intro wR hOR hszR hkR; replace hO := Own.add hO hOR; replace hown := hown.grow hOR.below; replace hua := hua.grow hOR.below; replace hub := hub.grow hOR.below; clear hOR hszR hkR; have hco := hO.b1.cell)
    | (go_at_call 11; (with_reducible refine (hsm k1 k2 k3 k4 kw _ (.slice Aka nka cka) (.slice Akb nkb ckb) hua hub).mono ?_); rintro e wc ⟨rfl, hbc⟩; replace hO := hO.grow hbc; replace hown := hown.grow hbc; clear hco hbc hua hub; have hco := hO.b1.cell)
    | (go_at_call 19; (with_reducible refine (hh1 _ _ _ (hin.grow hO.below)).mono ?_); rintro e wa ⟨Aha, nha, cha, rfl, hua, hba⟩; replace hO := hO.grow hba; replace hown := hown.grow hba; clear hco hba hh1)
    | ((with_reducible refine own_row0 #[.int .i64 h1, .int .i64 h2, .int .i64 h3, .int .i64 h4, .slice Aha nha cha] ((Own.nil wa).new0 25 #[.int .i64 0, .int .i64 0, .int .i64 0, .int .i64 0, .slice none 0 0]) rfl _ _ rfl rfl rfl (by kernel_rfl) rfl ?_ ?_); (· (simp [Value.oneCell']; done)); intro wR hOR hszR hkR; replace hO := Own.add hO hOR; replace hown := hown.grow hOR.below; replace hua := hua.grow hOR.below; clear hOR hszR hkR; have hco := hO.b1.cell)
    | (go_at_call 20; (with_reducible refine (hh2 _ _ _ hown).mono ?_); rintro e wb ⟨Ahb, nhb, chb, rfl, hub, hbb⟩; replace hO := hO.grow hbb; replace hown := hown.grow hbb; replace hua := hua.grow hbb; clear hco hbb hh2)
    | ((with_reducible refine own_row0 #[.int .i64 h1, .int .i64 h2, .int .i64 h3, .int .i64 h4, .slice Ahb nhb chb] ((Own.nil wb).new0 25 #[.int .i64 0, .int .i64 0, .int .i64 0, .int .i64 0, .slice none 0 0]) rfl _ _ rfl rfl rfl (by kernel_rfl) rfl ?_ ?_); (· (simp [Value.oneCell']; done)); intro wR hOR hszR hkR; replace hO := Own.add hO hOR; replace hown := hown.grow hOR.below; replace hua := hua.grow hOR.below; replace hub := hub.grow hOR.below; clear hOR hszR hkR; have hco := hO.b1.cell)
    | (go_at_call 11; (with_reducible refine (hsm h1 h2 h3 h4 hw _ (.slice Aha nha cha) (.slice Ahb nhb chb) hua hub).mono ?_); rintro e wc ⟨rfl, hbc⟩; replace hO := hO.grow hbc; replace hown := hown.grow hbc; clear hco hbc hua hub; have hco := hO.b1.cell)
    | (go_at_call 15; (with_reducible refine (ht1 _ _ _ (hin.grow hO.below)).mono ?_); rintro e wa ⟨Ata, nta, cta, Aoa, coa, rfl, hua, hpa, hba⟩; replace hO := hO.grow hba; replace hown := hown.grow hba; clear hco hba ht1)
    | ((with_reducible refine own_row0 #[.int .i64 t1, .int .i64 t2, .int .i64 t3, .int .i64 t4, .slice Ata nta cta] ((Own.nil wa).new0 25 #[.int .i64 0, .int .i64 0, .int .i64 0, .int .i64 0, .slice none 0 0]) rfl _ _ rfl rfl rfl (by kernel_rfl) rfl ?_ ?_); (· (simp [Value.oneCell']; done)); intro wR hOR hszR hkR; replace hO := Own.add hO hOR; replace hown := hown.grow hOR.below; replace hua := hua.grow hOR.below; replace hpa := hpa.grow hOR.below; clear hOR hszR hkR; have hco := hO.b1.cell)
    | (go_at_call 21; (with_reducible refine (ht2 _ _ _ hown).mono ?_); rintro e wb ⟨Atb, ntb, ctb, Aob, cob, rfl, hub, hpb, hbb⟩; replace hO := hO.grow hbb; replace hown := hown.grow hbb; replace hua := hua.grow hbb; replace hpa := hpa.grow hbb; clear hco hbb ht2)
    | ((with_reducible refine own_row0 #[.int .i64 t1, .int .i64 t2, .int .i64 t3, .int .i64 t4, .slice Atb ntb ctb] ((Own.nil wb).new0 25 #[.int .i64 0, .int .i64 0, .int .i64 0, .int .i64 0, .slice none 0 0]) rfl _ _ rfl rfl rfl (by kernel_rfl) rfl ?_ ?_); (· (simp [Value.oneCell']; done)); intro wR hOR hszR hkR; replace hO := Own.add hO hOR; replace hown := hown.grow hOR.below; replace hua := hua.grow hOR.below; replace hub := hub.grow hOR.below; replace hpa := hpa.grow hOR.below; replace hpb := hpb.grow hOR.below; clear hOR hszR hkR; have hco := hO.b1.cell)
    | (go_at_call 11; (with_reducible refine (hsm t1 t2 t3 t4 tw _ (.slice Ata nta cta) (.slice Atb ntb ctb) hua hub).mono ?_); rintro e wc ⟨rfl, hbc⟩; replace hO := hO.grow hbc; replace hown := hown.grow hbc; replace hpa := hpa.grow hbc; replace hpb := hpb.grow hbc; clear hco hbc hua hub; have hco := hO.b1.cell)
    | (go_at_call 22; (with_reducible refine (rllists_k tq Aoa Aob tn coa cob _ hpa hpb hpa.le).mono ?_); rintro e wc ⟨rfl, hbc⟩; replace hO := hO.grow hbc; replace hown := hown.grow hbc; clear hco hbc hpa hpb)
    | (go_at_call 11; (with_reducible refine (hsm x1 x2 x3 x4 ws _ (.slice A n c) (.slice A2 n c2) (hin.grow hO.below) hown).mono ?_); rintro e wc ⟨rfl, hbc⟩; replace hO := hO.grow hbc; replace hown := hown.grow hbc; clear hbc)
    )
  have hcl := hO.b0.cell
  have hcl2 := hO.b2.cell
  have hin1 := hin.grow hO.below
  have hlt0 := hO.b0.lt
  have hlt2 := hO.b2.lt
  have hbel := hO.below
  clear hO hin hsm hW hB
  refine wp_region_kin (by kernel_rfl) (by kernel_rfl) ?_
  repeat (go_big_quiet_step ((first | (go_at_call 13; exact kin_call (hm1 _ _ _ (hin1.grow (Kin.below _)))) | (go_at_call 23; exact kin_call (hm2 _ _ _ (hown.grow (Kin.below _)))))))
  refine wpQuiet_nil ?_
  intro W hW
  replace hW := kin_out hW
  go_wp2
  go_ret
  exact ⟨rfl, below_then hbel hW⟩
theorem linkDoes_walk (v : Value) (l : Lk) (vo : Value) (o : OpV) (w : World) (hv : IsLink l v w) (ho : IsOp o vo w) :
    Calls Try.prog 5 #[v, vo] w fun e w' => e = .returned (.bool true) ∧ Below w.heap.size w w' := by
  obtain ⟨u, rfl, A, c, xs, rfl, hx, hW, h1, h2⟩ := hv
  obtain ⟨Ab, cb, rfl, hB, hlo, hhi⟩ := ho
  have hc : l.waits.length ≤ 9223372036854775807 := by simp only [maxLen] at h2; omega
  by_cases he : lightL l = true ∧ o.body.length ≤ 2000
  · exact linkDoes_main l A _ c xs o.kind o.t o.now Ab _ cb o.body w hx rfl hW hc ⟨h1, h2⟩ hlo hhi rfl hB he.1 he.2
  · exact linkDoes_early l A _ c xs o.kind o.t o.now Ab _ cb w hx rfl hW hc he

set_option maxRecDepth 100000 in
theorem linkDoes_lifted (os : Os) (started : os.Started) (H : Type) (enc : TypeId × Value → H) :
    ReturnsInHanded {} Try.checked os 5 .any (Rows.linkDoesSpec.pre6 enc Try.prog Try.f5 Rows.linkDoesRow.domain false) (Rows.linkDoesSpec.post enc Try.prog Try.f5 false true false false) := by
  refine returnsInHanded_of_change (C := Try.checked) own started (by kernel_rfl) Try.func5
    (ChangeSpec.witness6 (enc := enc) (C := Try.checked) false ⟨#[], #[.agg #[.int .i64 0, .int .i64 0, .int .i64 0, .int .i64 0, .slice none 0 0], .agg #[.int .i64 0, .int .i64 0, .int .i64 0, .slice none 0 0]], []⟩ 8 (by kernel_rfl) (by kernel_rfl) (by kernel_rfl) (by kernel_rfl)) ?_
  intro W base args ds gs before hval0 hW hcnd _
  have hval : ∀ (j : Nat) t v, Try.f5.params[j]? = some t → args[j]? = some v → Value.okWide Try.prog W .any base t v := hval0
  have hW' := hW
  obtain ⟨p, q, hA0, hV, rfl, hfz, hnd⟩ := hW
  have hA : DataW.TrodAll enc Try.prog W 0 (fun _ => true) true Try.f5.params.toList args.toList ds p := hA0
  rw [Try.params5] at hA hval
  obtain ⟨v0, vs0, d0, ds0, p0, q0, hargs, rfl, rfl, h0, r0⟩ := trodAll_cons hA
  obtain ⟨v1, vs1, d1, ds1, p1, q1, rfl, rfl, rfl, h1, r1⟩ := trodAll_cons r0
  obtain ⟨rfl, rfl, rfl⟩ := trodAll_nil r1
  obtain rfl : args = #[v0, v1] := by cases args; simp_all
  obtain ⟨rfl, rfl⟩ := trodVars_none hV
  have k0 := h0
  have lt0 : ∀ x ∈ p0, x.block < W.heap.size := by obtain ⟨m, hm⟩ := k0; exact DataW.trod_lt m _ _ _ hm
  have k1 := h1
  have lt1 : ∀ x ∈ p1, x.block < W.heap.size := by obtain ⟨m, hm⟩ := k1; exact DataW.trod_lt m _ _ _ hm
  obtain ⟨s0, b0⟩ := open_link (hval 0 25 v0 rfl rfl) h0
  obtain ⟨s1, b1⟩ := open_op (hval 1 41 v1 rfl rfl) h1
  clear hA0 hval0
  refine (linkDoes_walk v0 s0 v1 s1 W b0 b1).mono fun e W' ⟨he, bel⟩ => ?_
  subst he
  exact ⟨_, rfl, _, _, _, [], _, [], hW', trodAll_mk1 (shut_bool Try.underlying4 _), (trodAll_cons_mk (Below.trod laidOut (by kernel_rfl) (of_decide_eq_true (by kernel_rfl)) k0 bel lt0) (trodAll_cons_mk (Below.trod laidOut (by kernel_rfl) (of_decide_eq_true (by kernel_rfl)) k1 bel lt1) trodAll_mk0)), rfl, bel.frame _, fun h => by cases h⟩

theorem linkDoes_over : Rows.linkDoesRow.holds Try.pinned (OpenSpec.ofChange Rows.linkDoesSpec) :=
  OpenClaim.holds_of_wide 5 Try.f5 rfl rfl rfl rfl rfl rfl rfl ⟨rfl, rfl, rfl, rfl, rfl⟩ rfl rfl rfl rfl rfl (by kernel_rfl) Try.func5 (by kernel_rfl)
    (of_decide_eq_true (by kernel_rfl)) (by unfold Func.isWrapper; rw [if_neg (of_decide_eq_false (by kernel_rfl))]; exact ⟨rfl, rfl⟩)
    (fun os started H enc _ => linkDoes_lifted os started H enc)

/-- THE STATEMENT. -/
theorem linkDoes_holds : Rows.LinkDoesSaid := linkDoes_over
end Go.Proofs.Ytiloammjejggjaa
