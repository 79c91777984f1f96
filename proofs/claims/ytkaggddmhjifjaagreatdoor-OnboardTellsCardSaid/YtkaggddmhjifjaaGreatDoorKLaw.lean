/- OnboardTells: how far any train is along its authority, what it may go over, its report, and the time of its next message, is what the document says. -/
import Derived.Test.YtkaggddmhjifjaaGreatDoorK26
import Derived.Test.YtkaggddmhjifjaaGreatDoorK27
import Derived.Test.YtkaggddmhjifjaaGreatDoorK17
import Derived.Test.YtkaggddmhjifjaaGreatDoorK41
import Derived.Test.YtkaggddmhjifjaaGreatDoorK35
import Derived.Test.YtkaggddmhjifjaaGreatDoorK30
import Derived.Test.YtkaggddmhjifjaaGreatDoorTie
import Derived.Test.YtkaggddmhjifjaaGreatDoorCards
import Derived.LaidMore
import Derived.Stop.Joined
import Derived.SevenTiedAt
set_option linter.unusedSimpArgs false
set_option linter.unusedVariables false
set_option linter.unusedSimpArgs false
set_option linter.unusedVariables false
namespace Go.Proofs.YtkaggddmhjifjaaGreatDoor
open Go.ChangeShapes Go.WideShapes Go.ChangeAt Go.RowKit Go.Shelf
open Go.ChangeMaps (open_string shut_string)
theorem fewX {a b c d : Bool} (h : (a && b && c && d) = true) : a = true ∧ b = true ∧ c = true ∧ d = true := by
 simp only [Bool.and_eq_true] at h
 exact ⟨h.1.1.1, h.1.1.2, h.1.2, h.2⟩
def IsSps (l : List Sp) (v : Value) (w : World) : Prop := ∃ A c, v = .slice A l.length c ∧ RowsAt encSp w A l
theorem IsSps.grow {l : List Sp} {v : Value} {w w' : World} (h : IsSps l v w) (hb : Below w.heap.size w w') : IsSps l v w' := by
 obtain ⟨A, c, e, hr⟩ := h
 exact ⟨A, c, e, hr.below hb⟩
set_option maxRecDepth 8000 in
set_option maxHeartbeats 16000000 in
theorem onTells_walk (s0 : Tp × TpM) (s1 : Tr × TrM) (now : Int) (hw0 : -9223372036854775808 ≤ now) (hw1 : now ≤ 9223372036854775807) (w : World)
  (b0 : TpL w s0.1 s0.2 ∧ s0.2.c1 ≤ maxLen ∧ s0.2.c2 ≤ maxLen ∧ s0.2.c3 ≤ maxLen ∧ s0.2.c4 ≤ maxLen) (b1 : TrL w s1.1 s1.2) {laid : List (String × DataW Unit)} (hL : laidMetH Tryz.prog laid w) :
  Calls Tryz.prog 3 #[.agg s0.2.cells, .agg (trC s1.1 s1.2), .int .i64 now] w fun e w' => e = .returned (.bool true) ∧ Below w.heap.size w w' := by
 obtain ⟨t, m⟩ := s0
 obtain ⟨x, xm⟩ := s1
 simp only at b0 b1 ⊢
 obtain ⟨hT, _, _, _, hc4⟩ := b0
 have hq4 := hT.q4
 have hc : m.n4 ≤ 9223372036854775807 := by unfold maxLen at hc4; omega
 clear hc4 hq4
 have hO : Own w _ [_, _] := Own.start2 w 27 44 m.cells (trC x xm)
 have hcl := hO.b0.cell
 have hcx := hO.b1.cell
 have hfew := fun W (hW : Below w.heap.size w W) => few_k (hT.below hW) hc x xm
 clear hc
 cases hL : (lightT t m && decide (xm.v.n1 ≤ 100) && decide (xm.v.n2 ≤ 100) && decide (xm.n3 ≤ 40)) with
 | false =>
  rw [hL] at hfew
  clear hL hw0 hw1
  unfold TpM.cells at *
  go_enter Tryz.func3, Tryz.ntmps3
  go_wp2_with (first
   |((with_reducible refine own_loadg0 hO ?_ _ rfl rfl _ Tryz.underlying27 rfl (by kernel_rfl) ?_); (· first | rfl | (simp [Region.wanted, yielded]; done)))
   |((with_reducible refine own_loadg1 hO ?_ _ rfl rfl _ Tryz.underlying44 rfl (trC_info _ xm) ?_); (· first | rfl | (simp [Region.wanted, yielded]; done)))
   |(go_at_call 4; (with_reducible refine (awake_k _).mono ?_); rintro e w1 ⟨rfl, hb1⟩; replace hO := hO.grow hb1)
   |(go_at_call 5; (with_reducible refine (hfew _ hO.below).mono ?_); rintro e w2 ⟨rfl, hb2⟩; replace hO := hO.grow hb2))
  go_ret
  exact ⟨rfl, hO.below⟩
 | true =>
  rw [hL] at hfew
  obtain ⟨l1, l2, l3, l4⟩ := fewX hL
  simp only [decide_eq_true_eq] at l2 l3 l4
  have hI := hT.is l1
  have hlo := b1.lo
  have hX := b1.is l2 l3 (Nat.le_trans l4 (by decide))
  clear l1 l2 l3 l4 hL hT b1
  have hfr := fun W (hW : Below w.heap.size w W) => frontX_m (hI.below hW) x xm (hX.below hW)
  have hrf := fun W (hW : Below w.heap.size w W) => rfront_m (hI.below hW) x xm (hX.below hW)
  have hau := fun W (hW : Below w.heap.size w W) => auth_k (hI.below hW) x xm (hX.below hW) now
  have hra := fun W (hW : Below w.heap.size w W) => rauth_k (hI.below hW) x xm (hX.below hW) now
  have hlen : (authX t x now).length ≤ 1000 := Nat.le_trans (auth_length (by rw [hX.ma.e1]; exact hX.ma.l1)) (by decide)
  have hsa := fun (A : Option Addr) (c : Nat) (B : Option Addr) (c2 : Nat) W (h1 : RowsAt encSp W A (authX t x now)) (h2 : RowsAt encSp W B (authX t x now)) => rsame15_k A _ c (authX t x now) B _ c2 (authX t x now) W h1 rfl h2 rfl hlen hlen
  have hrp := fun W => oreport_k x xm W
  have hrr := fun W => rreport_k x xm W
  have hrl : (repL x).length ≤ 1000 := by
   unfold repL
   split <;> simp
  have hsp := fun (A : Option Addr) (c : Nat) (B : Option Addr) (c2 : Nat) W (h1 : RowsAt encI W A (repL x)) (h2 : RowsAt encI W B (repL x)) => rsame05_k 0 A (repL x).length c B c2 (repL x) W h1 rfl h2 hrl
  have hot := fun W => otime_k x.last now hlo W
  have hrt := fun W => rttime_k x.last now W
  generalize frontX t x = fx at *
  generalize authX t x now = au at *
  generalize repL x = rl at *
  generalize repE x = re at *
  generalize timeN x.last now = tn at *
  generalize timeE x.last now = te at *
  have z1 : (re == re) = true := by simp
  have z2 : (tn == tn) = true := by simp
  have z3 : (te == te) = true := by simp
  obtain ⟨fn, fb, hfv⟩ : ∃ (n : Int) (b : Bool), frontV fx = .tuple #[.int .i64 n, .bool b] := by
   cases fx with
   | none => exact ⟨0, false, rfl⟩
   | some n => exact ⟨n, true, rfl⟩
  rw [hfv] at hfr hrf
  have z4 : (fn == fn) = true := by simp
  have z5 : (fb == fb) = true := by simp
  clear hfv hlen hlo hrl hI hX
  have t0 := tr0 x xm
  have t1 := tr1 x xm
  have t2 := tr2 x xm
  have t3 := tr3 x xm
  have t4 := tr4 x xm
  have t5 := tr5 x xm
  have t6 := tr6 x xm
  have t7 := tr7 x xm
  have t8 := tr8 x xm
  have t9 := tr9 x xm
  have t10 := tr10 x xm
  have t11 := tr11 x xm
  have t12 := tr12 x xm
  have t28 := tr28 x xm
  have t29 := tr29 x xm
  have t30 := tr30 x xm
  have t31 := tr31 x xm
  have t32 := tr32 x xm
  have t33 := tr33 x xm
  have t34 := tr34 x xm
  have t35 := tr35 x xm
  have t36 := tr36 x xm
  have t37 := tr37 x xm
  have t38 := tr38 x xm
  have t39 := tr39 x xm
  have t40 := tr40 x xm
  have t41 := tr41 x xm
  have t42 := tr42 x xm
  have t43 := tr43 x xm
  have t44 := tr44 x xm
  have t45 := tr45 x xm
  have t46 := tr46 x xm
  have t47 := tr47 x xm
  unfold TpM.cells at *
  clear hw0 hw1
  go_enter Tryz.func3, Tryz.ntmps3
  go_wp2_with (first
   |((with_reducible refine own_loadg0 hO ?_ _ rfl rfl _ Tryz.underlying27 rfl (by kernel_rfl) ?_); (· first | rfl | (simp [Region.wanted, yielded]; done)))
   |((with_reducible refine own_loadg1 hO ?_ _ rfl rfl _ Tryz.underlying44 rfl (trC_info _ xm) ?_); (· first | rfl | (simp [Region.wanted, yielded]; done)))
   |(go_at_call 4; (with_reducible refine (awake_k _).mono ?_); rintro e w1 ⟨rfl, hb1⟩; replace hO := hO.grow hb1)
   |(go_at_call 5; (with_reducible refine (hfew _ hO.below).mono ?_); rintro e w2 ⟨rfl, hb2⟩; replace hO := hO.grow hb2)
   |(go_at_call 6; (with_reducible refine (hfr _ hO.below).mono ?_); rintro e w3 ⟨rfl, hb3⟩; replace hO := hO.grow hb3)
   |(go_at_call 7; (with_reducible refine (hrf _ hO.below).mono ?_); rintro e w4 ⟨rfl, hb4⟩; replace hO := hO.grow hb4))
  clear hcl hcx hb1 hb2 hb3 hb4 hfew hfr hrf
  apply wp_region_lex
  case hFl =>
   intro u
   simp only [List.map, fill, Act.put, List.setIfInBounds_toArray, List.set_cons_zero, List.set_cons_succ, Nat.reduceAdd, Nat.zero_add]
   rfl
  case hm => kernel_rfl
  case hB => kernel_rfl
  case hap => kernel_rfl
  apply Lex.is
  ·
   (
    intro u w' hk hd
    refine looked_free rfl ?_
    intro K hK
    have hO2 := hO.grow hk
    exact wp_load_row 27 _ rfl _ rfl 27 _ (0, 0) _ hO2.b0 Tryz.underlying27 rfl (by kernel_rfl) (hK _ _ (Below.refl _ _) rfl))
  apply Lex.is
  ·
   (
    intro u w' hk hd
    refine looked_free rfl ?_
    intro K hK
    have hO2 := hO.grow hk
    exact wp_load_row 44 _ rfl _ rfl 44 _ (0, 0) _ hO2.b1 Tryz.underlying44 rfl (trC_info _ xm) (hK _ _ (Below.refl _ _) rfl))
  apply Lex.is
  ·
   (
    intro u w' hk hd
    simp [Waited, Region.binds, Is] at hd
    refine looked_want (by first | rfl | simp [Region.wanted, yielded, hd]) ?_
    intro K hK
    skip
    go_wp2_with (fail)
    try simp only [hd] at hK
    refine hK _ _ ?_ rfl
    first | exact Below.refl _ _ | exact hb3)
  refine Lex.word (IsSps au) (fun _ _ _ h hb => h.grow hb) ?_ ?_
  ·
   (
    intro u w' hk hd
    simp [Waited, Region.binds, Is] at hd
    refine looked_want (by first | rfl | simp [Region.wanted, yielded, hd]) ?_
    intro K hK
    obtain ⟨hcR, _⟩ := bcell hk
    have hO2 := hO.grow hk
    go_wp2_with (go_at_call 9; (with_reducible refine (hau _ hO2.below).mono ?_); rintro e w3 ⟨A4, c4, rfl, hr4, hb4⟩)
    try simp only [hd] at hK
    exact hK _ _ hb4 ⟨A4, c4, rfl, hr4⟩)
  apply Lex.is
  ·
   (
    intro u w' hk hd
    refine looked_free rfl ?_
    intro K hK
    have hO2 := hO.grow hk
    exact wp_load_row 27 _ rfl _ rfl 27 _ (0, 0) _ hO2.b0 Tryz.underlying27 rfl (by kernel_rfl) (hK _ _ (Below.refl _ _) rfl))
  apply Lex.is
  ·
   (
    intro u w' hk hd
    refine looked_free rfl ?_
    intro K hK
    have hO2 := hO.grow hk
    exact wp_load_row 44 _ rfl _ rfl 44 _ (0, 0) _ hO2.b1 Tryz.underlying44 rfl (trC_info _ xm) (hK _ _ (Below.refl _ _) rfl))
  apply Lex.is
  ·
   (
    intro u w' hk hd
    simp [Waited, Region.binds, Is] at hd
    refine looked_want (by first | rfl | simp [Region.wanted, yielded, hd]) ?_
    intro K hK
    skip
    go_wp2_with (fail)
    try simp only [hd] at hK
    refine hK _ _ ?_ rfl
    first | exact Below.refl _ _ | exact hb3)
  refine Lex.word (IsSps au) (fun _ _ _ h hb => h.grow hb) ?_ ?_
  ·
   (
    intro u w' hk hd
    simp [Waited, Region.binds, Is] at hd
    refine looked_want (by first | rfl | simp [Region.wanted, yielded, hd]) ?_
    intro K hK
    obtain ⟨hcR, _⟩ := bcell hk
    have hO2 := hO.grow hk
    go_wp2_with (go_at_call 10; (with_reducible refine (hra _ hO2.below).mono ?_); rintro e w3 ⟨A4, c4, rfl, hr4, hb4⟩)
    try simp only [hd] at hK
    exact hK _ _ hb4 ⟨A4, c4, rfl, hr4⟩)
  refine Lex.is (c := .bool true) ?_ ?_
  ·
   intro u w' hk hd
   simp [Waited, Region.binds] at hd
   obtain ⟨⟨A4, c4, d4, hr4⟩, ⟨A5, c5, d5, hr5⟩⟩ := hd
   refine looked_want (by first | rfl | simp [Region.wanted, yielded, d4, d5]) ?_
   intro K hK
   have hq := hsa A4 c4 A5 c5 w' hr4 hr5
   go_wp2_with (go_at_call 8; (with_reducible refine hq.mono ?_); rintro e w3 ⟨⟨q, rfl, hq2⟩, hb3⟩; obtain rfl := hq2.2 (by first | trivial | rfl))
   try simp only [d4, d5] at hK
   exact hK _ _ hb3 rfl
  apply Lex.is
  ·
   (
    intro u w' hk hd
    simp [Waited, Region.binds, Is] at hd
    refine looked_want (by first | rfl | simp [Region.wanted, yielded, hd]) ?_
    intro K hK
    skip
    go_wp2_with (fail)
    try simp only [hd] at hK
    refine hK _ _ ?_ rfl
    first | exact Below.refl _ _ | exact hb3)
  apply Lex.nil
  intro u w' hk hd
  have hlast := hd 9 _ rfl
  simp only [List.nil_append, List.cons_append, Is] at hlast
  clear hd
  simp only [hlast]
  clear hlast hsa hau hra
  replace hO := hO.grow hk
  clear hk
  go_wp2_with (first
   |((with_reducible refine own_loadg1 hO ?_ _ rfl rfl _ Tryz.underlying44 rfl (trC_info _ xm) ?_); (· first | rfl | (simp [Region.wanted, yielded]; done)))
   |(go_at_call 11; (with_reducible refine (hrp _).mono ?_); rintro e w5 ⟨⟨A5, c5, rfl, hr5⟩, hb5⟩; replace hO := Own.new2 (hO.grow hb5) 56 #[.int .i64 0, .slice A5 rl.length c5]; replace hr5 := hr5.below ((Below.refl _ _).alloc (Nat.le_refl _) (.cells #[.int .i64 0, .slice A5 rl.length c5] 56)); have hcy5 := hO.b2.cell)
   |(go_at_call 12; (with_reducible refine (hrr _).mono ?_); rintro e w6 ⟨⟨A6, c6, rfl, hr6⟩, hb6⟩; replace hO := Own.new3 (hO.grow hb6) 56 #[.int .i64 0, .slice A6 rl.length c6]; replace hr5 := (hr5.below hb6).below ((Below.refl _ _).alloc (Nat.le_refl _) (.cells #[.int .i64 0, .slice A6 rl.length c6] 56)); replace hr6 := hr6.below ((Below.refl _ _).alloc (Nat.le_refl _) (.cells #[.int .i64 0, .slice A6 rl.length c6] 56)); have hcy6 := hO.b2.cell; have hcz6 := hO.b3.cell)
   |(go_at_call 13; (with_reducible refine (hsp _ _ _ _ _ hr5 hr6).mono ?_); rintro e w7 ⟨rfl, hb7⟩; replace hO := hO.grow hb7; have hcx7 := hO.b1.cell)
   |(go_at_call 14; (with_reducible refine (hot _).mono ?_); rintro e w8 ⟨rfl, hw8⟩; obtain rfl := hw8.symm)
   |(go_at_call 15; (with_reducible refine (hrt _).mono ?_); rintro e w9 ⟨rfl, hw9⟩; obtain rfl := hw9.symm))
  go_ret
  exact ⟨rfl, hO.below⟩
def onboardTells_laid : List (String × DataW Unit) := [("lineside/vars.widths", Rows.laid_lineside_vars_widths)]
theorem onboardTells_door (os : Os) (args : Array Value) : laidMetH Tryz.prog onboardTells_laid ((World.doorLaid Tryz.prog 4000 os).forCall (fun _ _ => 0) ⟨#[], args, []⟩).memory :=
 laidMetH_of_parts3 (fuel := 8) (laidMet_of_run' 8 (by kernel_rfl) (by kernel_rfl)) (by kernel_rfl) (by kernel_rfl)
set_option maxHeartbeats 4000000 in
set_option maxRecDepth 100000 in
theorem onboardTells_lifted (os : Os) (started : os.Started) (H : Type) (enc : TypeId × Value → H) :
  ReturnsInHanded {} Tryz.checked os 3 .any (fun w args => (Rows.onboardTellsSpec.pre enc Tryz.prog Tryz.f3 [] false w args ∧ laidMetH Tryz.prog onboardTells_laid w) ∧ sizedMet enc Tryz.prog Tryz.f3 (OpenSpec.ofChange Rows.onboardTellsSpec) false w args)
   (Rows.onboardTellsSpec.post enc Tryz.prog Tryz.f3 false true false false) := by
 refine returnsInHanded_of_change_and (C := Tryz.checked) (X := fun w _ => laidMetH Tryz.prog onboardTells_laid w) (fun _ _ _ hh h => h.of_heap hh) own started (by kernel_rfl) Tryz.func3
  (ChangeSpec.witness_shaped (enc := enc) (C := Tryz.checked) (os := os) (X := fun w _ => laidMetH Tryz.prog onboardTells_laid w) false (World.doorLaid Tryz.prog 4000 os) #[.agg #[.slice none 0 0, .slice none 0 0, .slice none 0 0, .slice none 0 0], .agg #[.int .i64 0, .int .i64 0, .int .i64 0, .int .i64 0, .int .i64 0, .int .i64 0, .int .i64 0, .int .i64 0, .int .i64 0, .int .i64 0, .int .i64 0, .int .i64 0, .int .i64 0, .int .u32 0, .int .u32 0, .int .u32 0, .int .u32 0, .int .i64 0, .int .u32 0, .int .u32 0, .int .u32 0, .int .u32 0, .int .u32 0, .int .u32 0, .bool false, .int .u32 0, .int .u32 0, .int .u32 0, .int .i64 0, .int .i64 0, .int .i64 0, .bool false, .int .i64 0, .bool false, .int .i64 0, .int .i64 0, .bool false, .int .i64 0, .int .i64 0, .bool false, .int .i64 0, .bool false, .slice none 0 0, .slice none 0 0, .int .i64 0, .int .i64 0, .bool false, .slice none 0 0], .int .i64 0] 8 rfl (World.shaped_of_RefB (by kernel_rfl) (by kernel_rfl)) (by kernel_rfl) (by kernel_rfl) (by kernel_rfl) (onboardTells_door os _)) ?_
 intro W base args ds gs before hval0 hW _ _ hL _
 have hval : ∀ (j : Nat) t v, Tryz.f3.params[j]? = some t → args[j]? = some v → Value.okWide Tryz.prog W .any base t v := hval0
 have hW' := hW
 obtain ⟨p, q, hA0, hV, rfl, hfz, hnd⟩ := hW
 have hA : DataW.TrodAll enc Tryz.prog W 0 (fun _ => true) true Tryz.f3.params.toList args.toList ds p := hA0
 rw [Tryz.params3] at hA hval
 obtain ⟨v0, vs0, d0, ds0, p0, q0, hargs, rfl, rfl, h0, r0⟩ := trodAll_cons hA
 obtain ⟨v1, vs1, d1, ds1, p1, q1, rfl, rfl, rfl, h1, r1⟩ := trodAll_cons r0
 obtain ⟨v2, vs2, d2, ds2, p2, q2, rfl, rfl, rfl, h2, r2⟩ := trodAll_cons r1
 obtain ⟨rfl, rfl, rfl⟩ := trodAll_nil r2
 obtain rfl : args = #[v0, v1, v2] := by cases args; simp_all
 obtain ⟨rfl, rfl⟩ := trodVars_none hV
 have k0 := h0
 have lt0 : ∀ x ∈ p0, x.block < W.heap.size := by obtain ⟨m, hm⟩ := k0; exact DataW.trod_lt m _ _ _ hm
 have k1 := h1
 have lt1 : ∀ x ∈ p1, x.block < W.heap.size := by obtain ⟨m, hm⟩ := k1; exact DataW.trod_lt m _ _ _ hm
 have k2 := h2
 have lt2 : ∀ x ∈ p2, x.block < W.heap.size := by obtain ⟨m, hm⟩ := k2; exact DataW.trod_lt m _ _ _ hm
 obtain ⟨s0, rfl, b0⟩ := open_topo (hval 0 27 v0 rfl rfl) h0
 obtain ⟨s1, rfl, b1⟩ := open_train (hval 1 44 v1 rfl rfl) h1
 obtain ⟨a2, rfl, _, _, w2⟩ := open_int Tryz.underlying3 (hval 2 3 v2 rfl rfl) h2
 clear hA0 hval0
 refine (onTells_walk s0 s1 a2 (bounds_i64 w2).1 (bounds_i64 w2).2 W b0 b1 hL).mono fun e W' ⟨he, bel⟩ => ?_
 subst he
 exact ⟨_, rfl, _, _, _, [], _, [], hW', trodAll_mk1 (shut_bool Tryz.underlying4 _), (trodAll_cons_mk (Below.trod laidOut (by kernel_rfl) (of_decide_eq_true (by kernel_rfl)) k0 bel lt0) (trodAll_cons_mk (Below.trod laidOut (by kernel_rfl) (of_decide_eq_true (by kernel_rfl)) k1 bel lt1) (trodAll_cons_mk (Below.trod laidOut (by kernel_rfl) (of_decide_eq_true (by kernel_rfl)) k2 bel lt2) trodAll_mk0))), rfl, bel.frame _, fun h => by cases h⟩
theorem and_mk {a b : Bool} (ha : a = true) (hb : b = true) : (a && b) = true := by rw [ha, hb]; rfl
set_option maxRecDepth 100000 in
set_option maxHeartbeats 8000000 in
theorem onboardTells_closed : joinedFacts Tryz.prog 3 Tryz.f3 Rows.onboardTellsSpec Rows.onboardTellsRow = true := by
 unfold joinedFacts
 repeat' (with_reducible refine and_mk ?_ ?_)
 all_goals (as_aux_lemma => kernel_rfl)
theorem onboardTells_over : Rows.OnboardTellsSaid :=
 OpenClaim.holds_of_wide 3 Tryz.f3 rfl rfl rfl rfl rfl rfl rfl ⟨rfl, rfl, rfl, rfl, rfl⟩ rfl rfl rfl rfl rfl (by kernel_rfl) Tryz.func3 onboardTells_closed
  (of_decide_eq_true (by kernel_rfl)) (by unfold Func.isWrapper; rw [if_neg (of_decide_eq_false (by kernel_rfl))]; exact ⟨rfl, rfl⟩)
  (fun os started H enc _ => onboardTells_lifted os started H enc)
theorem onboardTells_holds : Rows.OnboardTellsCardSaid :=
 Claim7.holds_tied_plain_at .later [] [.data] true (true, "62fafe8a0a3b3e4b13810967a931a824fc5d1ec0173987b02b9d36911b9c4168") true
  onboardTells_over (fun _ h => by cases h) (by kernel_rfl) (fun _ h => by cases h) onboardTells_row_tie rfl ⟨rfl, rfl⟩ (by kernel_rfl) rfl
  (fun f fn hf hfn => by
   obtain rfl : f = 3 := Option.some.inj ((show Tryz.prog.funcNamed Rows.onboardTellsRow.func = some 3 by kernel_rfl).symm.trans hf) |>.symm
   obtain rfl : fn = Tryz.f3 := (Option.some.inj (Tryz.func3.symm.trans hfn)).symm
   exact ⟨by kernel_rfl, fun j t ht => by
    rw [Tryz.params3] at ht
    have hm : t ∈ [27, 44, 3] := by simpa using Array.mem_of_getElem? ht
    have hall : ([27, 44, 3].all fun u => !Tryz.prog.wantsStandIn u) = true := by kernel_rfl
    exact (show Tryz.prog.wantsStandIn t = false by simpa using List.all_eq_true.1 hall t hm)⟩)
  (by kernel_rfl)
end Go.Proofs.YtkaggddmhjifjaaGreatDoor
