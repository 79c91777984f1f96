/- OdoSorts: any readings are, in order, cleaned, and in the middle, what the document says. -/
import Derived.Test.YtoneofdihknnoabOdoMid
set_option linter.unusedSimpArgs false
set_option linter.unusedVariables false
namespace Go.Proofs.Ytoneofdihknnoab
open Go.ChangeShapes Go.WideShapes Go.ChangeAt Go.RowKit Go.Shelf Go.Sort Ieee

theorem mid_same {t1 t2 ys : List UInt64} (h1 : t1.Perm (numL ys)) (h2 : t2.Perm (numL ys)) (a1 : Asc t1) (a2 : Asc t2) : t2.length = t1.length ∧ placeV (midL t1).toNat = placeV (midL t2).toNat := by
  have hp := h1.trans h2.symm
  have hl := hp.length_eq
  refine ⟨hl.symm, ?_⟩
  unfold midL
  rw [← hl]
  by_cases h0 : t1.length = 0
  · rw [if_pos h0, if_pos h0]
  · rw [if_neg h0, if_neg h0]
    exact same_at (asc_same a1 a2 hp) (by omega)
set_option maxHeartbeats 8000000 in
set_option maxRecDepth 100000 in
theorem odoSorts_main (A : Option Addr) (c n : Nat) (ys : List UInt64) (w : World) (hn : ys.length = n) (hn200 : n ≤ 200) (hY : RowF w A ys) :
    Calls Try.prog 3 #[.slice A n c] w fun e w' => e = .returned (.bool true) ∧ Below w.heap.size w w' := by
  have hps := fun A c W h => psort_k A c n ys W hn hn200 h
  have hrs := fun A c W h => rsort_k A c n ys W hn hn200 h
  have hpc := fun A c W h => pclean_k A c n ys W hn hn200 h
  have hrc := fun A c W h => rclean_k A c n ys W hn hn200 h
  have hpm := fun A c W h => pmid_k A c n ys W hn hn200 h
  have hrm := fun A c W h => rmid_k A c n ys W hn hn200 h
  have hsame : ∀ (x y : UInt64) W, Calls Try.prog 12 #[encF x, encF y] W fun e w' => e = .returned (.bool (decide (placeV x.toNat = placeV y.toNat))) ∧ Below W.heap.size W w' := fun x y W => rodsame_k x.toNat y.toNat W
  have hd2 : decide ((200 : Int) < (n : Int)) = false := decide_eq_false (by omega)
  have HN := Lib.hid hn
  obtain ⟨L, hL⟩ : ∃ L, L = (finF ys).length := ⟨_, rfl⟩
  have HL := Lib.hid hL
  have hLn : L ≤ 200 := by rw [hL]; exact Nat.le_trans (List.length_filter_le _ _) (by omega)
  clear hn hL
  go_enter Try.func3, Try.ntmps3
  go_wp2_with (first
    | (go_at_call 4; (with_reducible refine (awake4_any _).mono ?_); rintro e w1 ⟨rfl, hb⟩)
    | (at_builtin; refine wpList_app_f rfl _ _ rfl w1.heap.size none 0 [] 0 rfl rfl (OwnF.nil _ _) A c ys n rfl HN.out (hY.below hb) (by omega) (Nat.le_refl _) ?_; intro A2 c2 W2 hO2 hg2 h2; simp only [List.nil_append, Nat.zero_add] at hO2; replace hb : Below w.heap.size w W2 := hb.grown hg2 hb.size (fun q hq => by cases hq); have hR := hO2.rowF; clear hg2 h2 hO2)
    | (go_at_call 6; (with_reducible refine (hps _ _ _ hR).mono ?_); rintro e w3 ⟨A3, c3, s1, rfl, hl1, hp1, ha1, hr1, _, hb3⟩; replace hR := hR.below hb3; replace hb := hb.trans (hb3.mono hb.size); clear hps hb3)
    | (go_at_call 7; (with_reducible refine (hrs _ _ _ (hY.below hb)).mono ?_); rintro e w4 ⟨A4, c4, s2, rfl, hl2, hp2, ha2, hO4, hb4⟩; replace hR := hR.below hb4; replace hr1 := hr1.below hb4; replace hb := hb.trans (hb4.mono hb.size); have hli := fun W h1 h2 => rlists_k A3 A4 n c3 c4 s1 s2 W hl1 hl2 hn200 h1 h2 (fun j hj => same_at (asc_same ha1 ha2 (hp1.trans hp2.symm)) (by rw [hl1]; exact hj)); clear hrs hb4)
    | (go_at_call 5; (with_reducible refine (hli _ hr1 hO4.rowF).mono ?_); rintro e w5 ⟨rfl, hb5⟩; replace hR := hR.below hb5; replace hb := hb.trans (hb5.mono hb.size); clear hli hr1 hO4 hb5 hl1 hl2 hp1 hp2 ha1 ha2)
    | (go_at_call 8; (with_reducible refine (hpc _ _ _ hR).mono ?_); rintro e w6 ⟨A6, c6, z1, m1, rfl, hl1, hz1, hr1, hb6⟩; obtain rfl : m1 = L := (by have := congrArg List.length hz1; rw [HL.out]; simp at this; omega); replace hR := hR.below hb6; replace hb := hb.trans (hb6.mono hb.size); clear hpc hb6)
    | (go_at_call 9; (with_reducible refine (hrc _ _ _ (hY.below hb)).mono ?_); rintro e w7 ⟨A7, c7, z2, m2, rfl, hl2, hz2, hr2, hb7⟩; obtain rfl : m1 = m2 := (by have := congrArg List.length hz1; have := congrArg List.length hz2; simp at *; omega); replace hR := hR.below hb7; replace hr1 := hr1.below hb7; replace hb := hb.trans (hb7.mono hb.size); have hli := fun W h1 h2 => rlists_k A6 A7 m1 c6 c7 z1 z2 W hl1 hl2 hLn h1 h2 (fun j hj => same_at (hz1.trans hz2.symm) (by rw [hl1]; exact hj)); clear hrc hb7)
    | (go_at_call 5; (with_reducible refine (hli _ hr1 hr2).mono ?_); rintro e w8 ⟨rfl, hb8⟩; replace hR := hR.below hb8; replace hb := hb.trans (hb8.mono hb.size); clear hli hr1 hr2 hb8 hl1 hl2 hz1 hz2)
    | (go_at_call 10; (with_reducible refine (hpm _ _ _ hR).mono ?_); rintro e w9 ⟨t1, hp1, ha1, rfl, hb9⟩; replace hR := hR.below hb9; replace hb := hb.trans (hb9.mono hb.size); clear hpm hb9)
    | (go_at_call 11; (with_reducible refine (hrm _ _ _ (hY.below hb)).mono ?_); rintro e w10 ⟨t2, hp2, ha2, he, hb10⟩; obtain ⟨hlq, hpq⟩ := mid_same hp1 hp2 ha1 ha2; rw [hlq] at he; subst he; have hsm := fun W => hsame (midL t1) (midL t2) W; rw [decide_eq_true hpq] at hsm; replace hR := hR.below hb10; replace hb := hb.trans (hb10.mono hb.size); clear hrm hb10 hlq hpq hsame)
    | (go_at_call 12; (with_reducible refine (hsm _).mono ?_); rintro e w11 ⟨rfl, hb11⟩; replace hR := hR.below hb11; replace hb := hb.trans (hb11.mono hb.size); clear hsm hb11 hp1 hp2 ha1 ha2; have hli := fun W h1 h2 => rlists_k A2 A n c2 c ys ys W HN.out HN.out hn200 h1 h2 (fun _ _ => rfl))
    | (go_at_call 5; (with_reducible refine (hli _ hR (hY.below hb)).mono ?_); rintro e w12 ⟨rfl, hb12⟩; replace hb := hb.trans (hb12.mono hb.size))
    )
  go_ret
  exact ⟨rfl, hb⟩
theorem odoSorts_walk (v : Value) (d : Array UInt64) (w : World) (hv : IsFloats d v w) : Calls Try.prog 3 #[v] w fun e w' => e = .returned (.bool true) ∧ Below w.heap.size w w' := by
  obtain ⟨A, c, rfl, hA⟩ := hv
  by_cases h : d.size ≤ 200
  · refine odoSorts_main A c _ d.toList w (by simp) h fun h0 => ?_
    obtain ⟨b, off, e, hb, hc⟩ := hA (by simpa using h0)
    refine ⟨b, off, e, hb, fun j hj => ?_⟩
    have hjs : j < d.size := by simpa using hj
    rw [hc j hjs, getElem!_pos d j hjs, getElem!_pos d.toList j hj]
    simp
  · have hd : decide ((200 : Int) < (d.size : Int)) = true := decide_eq_true (by omega)
    clear h hA
    generalize d.size = n at *
    go_enter Try.func3, Try.ntmps3
    go_wp2_with (first
      | (go_at_call 4; (with_reducible refine (awake4_any _).mono ?_); rintro e w1 ⟨rfl, hb1⟩))
    go_ret
    exact ⟨rfl, hb1⟩

set_option maxRecDepth 100000 in
theorem odoSorts_lifted (os : Os) (started : os.Started) (H : Type) (enc : TypeId × Value → H) :
    ReturnsInHanded {} Try.checked os 3 .any (Rows.odoSortsSpec.pre6 enc Try.prog Try.f3 Rows.odoSortsRow.domain false) (Rows.odoSortsSpec.post enc Try.prog Try.f3 false true false false) := by
  refine returnsInHanded_of_change (C := Try.checked) own started (by kernel_rfl) Try.func3
    (ChangeSpec.witness6 (enc := enc) (C := Try.checked) false ⟨#[], #[.slice none 0 0], []⟩ 8 (by kernel_rfl) (by kernel_rfl) (by kernel_rfl) (by kernel_rfl)) ?_
  intro W base args ds gs before hval0 hW hcnd _
  have hval : ∀ (j : Nat) t v, Try.f3.params[j]? = some t → args[j]? = some v → Value.okWide Try.prog W .any base t v := hval0
  have hW' := hW
  obtain ⟨p, q, hA0, hV, rfl, hfz, hnd⟩ := hW
  have hA : DataW.TrodAll enc Try.prog W 0 (fun _ => true) true Try.f3.params.toList args.toList ds p := hA0
  rw [Try.params3] at hA hval
  obtain ⟨v0, vs0, d0, ds0, p0, q0, hargs, rfl, rfl, h0, r0⟩ := trodAll_cons hA
  obtain ⟨rfl, rfl, rfl⟩ := trodAll_nil r0
  obtain rfl : args = #[v0] := by cases args; simp_all
  obtain ⟨rfl, rfl⟩ := trodVars_none hV
  have k0 := h0
  have lt0 : ∀ x ∈ p0, x.block < W.heap.size := by obtain ⟨m, hm⟩ := k0; exact DataW.trod_lt m _ _ _ hm
  obtain ⟨s0, b0⟩ := open_floats (hval 0 22 v0 rfl rfl) h0
  clear hA0 hval0
  refine (odoSorts_walk v0 s0 W b0).mono fun e W' ⟨he, bel⟩ => ?_
  subst he
  exact ⟨_, rfl, _, _, _, [], _, [], hW', trodAll_mk1 (shut_bool Try.underlying4 _), (trodAll_cons_mk (Below.trod laidOut (by kernel_rfl) (of_decide_eq_true (by kernel_rfl)) k0 bel lt0) trodAll_mk0), rfl, bel.frame _, fun h => by cases h⟩

theorem odoSorts_over : Rows.odoSortsRow.holds Try.pinned (OpenSpec.ofChange Rows.odoSortsSpec) :=
  OpenClaim.holds_of_wide 3 Try.f3 rfl rfl rfl rfl rfl rfl rfl ⟨rfl, rfl, rfl, rfl, rfl⟩ rfl rfl rfl rfl rfl (by kernel_rfl) Try.func3 (by kernel_rfl)
    (of_decide_eq_true (by kernel_rfl)) (by unfold Func.isWrapper; rw [if_neg (of_decide_eq_false (by kernel_rfl))]; exact ⟨rfl, rfl⟩)
    (fun os started H enc _ => odoSorts_lifted os started H enc)

/-- THE STATEMENT. -/
theorem odoSorts_holds : Rows.OdoSortsSaid := odoSorts_over
end Go.Proofs.Ytoneofdihknnoab
