/- CipherFirst: the first key of the rounds is the key's last word; of two keys that differ in it alone the rows of keys are alike just if the words are. No condition. -/
import Derived.Test.YtcmchgfhnmndeaaAwake7
import Derived.Test.YtcmchgfhnmndeaaLawAid
import Derived.Test.YtcmchgfhnmndeaaKin
namespace Go.Proofs.Ytcmchgfhnmndeaa
open Go.ChangeShapes Go.WideShapes Go.ChangeAt Go.RowKit
open Go.ChangeMaps (open_string shut_string)

set_option maxHeartbeats 2000000 in
theorem first_walk (k : K4) (n : BitVec 32) (w : World) : Calls Try.prog 7 #[.agg #[q32 k.k0, q32 k.k1, q32 k.k2, q32 k.k3], q32 n] w fun e w' => e = .returned (.bool true) ∧ Below w.heap.size w w' := by
  have g27 : Try.prog.eqGuardType Try.prog.depth 26 = false := by kernel_rfl
  go_enter Try.func7, Try.ntmps7
  go_wp2_with (first
    | (go_at_call 8; (with_reducible refine (awake7_any _).mono ?_); rintro e w1 ⟨rfl, hb1⟩; obtain ⟨hc1, _⟩ := bcell hb1; have hz1 : w.heap.size < w1.heap.size := by have := hb1.size; simp at this; omega)
    | (go_at_call 9; (with_reducible refine (rounds_k _ _).mono ?_); rintro e w2 ⟨rfl, hb2⟩; obtain ⟨hc2, _⟩ := bcell hb2; have hz2 : w.heap.size < w2.heap.size := by have := hb2.size; omega)
    | (with_reducible refine wpList_store_own rfl 26 (.tmp 6) (.tmp 11) rfl w2.heap.size (outA k 27) rfl rfl 26 _ (Blk.new _ _ _) (by rw [outA_size]; kernel_rfl) (by simp [outA_size]) (outA_one k 27) w2.heap.size w2 ((Below.refl _ _).alloc (Nat.le_refl _) _) (Nat.le_refl _) ?_))
  intro W hW hbW hsW _
  obtain ⟨hc3, _⟩ := bcell hbW
  have hz3 : w2.heap.size < W.heap.size := by rw [hsW]; simp
  clear hsW
  go_wp2_with (first
    | (go_at_call 9; (with_reducible refine (rounds_any k.k0 k.k1 k.k2 n _).mono ?_); rintro e w4 ⟨rfl, hb4⟩; obtain ⟨hc4, _⟩ := bcell hb4; have hz4 : W.heap.size < w4.heap.size := by have := hb4.size; simp at this; omega)
    | (with_reducible refine wpList_store_own rfl 26 (.tmp 8) (.tmp 16) rfl w4.heap.size (outA ⟨k.k0, k.k1, k.k2, n⟩ 27) rfl rfl 26 _ (Blk.new _ _ _) (by rw [outA_size]; kernel_rfl) (by simp [outA_size]) (outA_one _ 27) w4.heap.size w4 ((Below.refl _ _).alloc (Nat.le_refl _) _) (Nat.le_refl _) ?_))
  intro V hV hbV hsV _
  have hWV : Blk V w2.heap.size 26 (outA k 27) := ((hW.alloc _).below hb4 (by simp; omega)).below hbV (by omega)
  have hz5 : w4.heap.size < V.heap.size := by rw [hsV]; simp
  clear hsV
  have hKV : Blk V w.heap.size 24 #[q32 k.k0, q32 k.k1, q32 k.k2, q32 k.k3] := ((((((Blk.new w _ _).below hb1 (by simp)).below hb2 hz1).below hbW hz2).alloc _).below hb4 (by simp; omega)).below hbV (by omega)
  have y1 : w.heap.size < V.heap.size := by omega
  have y2 : w2.heap.size < V.heap.size := by omega
  clear hc1 hc2 hc3 hc4
  have c0 := hKV.cell
  have c1 := hWV.cell
  have c2 := hV.cell
  have a1 : (outA k 27)[0]? = some (q32 k.k3) := outA_full k 0 (by decide)
  have a2 : (outA ⟨k.k0, k.k1, k.k2, n⟩ 27)[0]? = some (q32 n) := outA_full _ 0 (by decide)
  have l1 : ((Try.prog.info? 26).map (·.size)) = some (outA k 27).size := by rw [outA_size]; kernel_rfl
  have l2 : ((Try.prog.info? 26).map (·.size)) = some (outA ⟨k.k0, k.k1, k.k2, n⟩ 27).size := by rw [outA_size]; kernel_rfl
  have L1 := Lib.hid l1
  have L2 := Lib.hid l2
  clear l1 l2
  have q1 := run_eql_keys k ⟨k.k0, k.k1, k.k2, n⟩
  rw [sameKeys_first] at q1
  go_wp2_with fail
  refine wp_region_kin (by kernel_rfl) (by kernel_rfl) ?_
  repeat (first
    | (go_big_quiet_want; (with_reducible refine quiet_load_row 26 (.tmp 6) rfl w2.heap.size rfl 26 (outA k 27) _ hWV Try.underlying26 rfl L1.out ?_); go_big_quiet_on; simp only [Act.put, List.setIfInBounds_toArray, List.set_cons_zero, List.set_cons_succ])
    | (go_big_quiet_want; (with_reducible refine quiet_load_row 26 (.tmp 8) rfl w4.heap.size rfl 26 (outA ⟨k.k0, k.k1, k.k2, n⟩ 27) _ hV Try.underlying26 rfl L2.out ?_); go_big_quiet_on; simp only [Act.put, List.setIfInBounds_toArray, List.set_cons_zero, List.set_cons_succ])
    | (go_big_quiet_step (fail)))
  refine wpQuiet_nil ?_
  rintro _ ⟨⟨U, hU⟩, rfl⟩
  go_wp2
  go_ret
  exact ⟨rfl, below_then (below_then (below_then (below_then (below_then (below_of_alloc hb1) hb2) hbW) (below_of_alloc hb4)) hbV) hU⟩

set_option maxRecDepth 100000 in
theorem cipherFirst_lifted (os : Os) (started : os.Started) (H : Type) (enc : TypeId × Value → H) :
    ReturnsInHanded {} Try.checked os 7 .any (Rows.cipherFirstSpec.pre6 enc Try.prog Try.f7 Rows.cipherFirstRow.domain false) (Rows.cipherFirstSpec.post enc Try.prog Try.f7 false true false false) := by
  refine returnsInHanded_of_change (C := Try.checked) own started (by kernel_rfl) Try.func7
    (ChangeSpec.witness6 (enc := enc) (C := Try.checked) false ⟨#[], #[.agg #[.int .u32 0, .int .u32 0, .int .u32 0, .int .u32 0], .int .u32 0], []⟩ 8 (by kernel_rfl) (by kernel_rfl) (by kernel_rfl) (by kernel_rfl)) ?_
  intro W base args ds gs before hval0 hW hcnd _
  have hval : ∀ (j : Nat) t v, Try.f7.params[j]? = some t → args[j]? = some v → Value.okWide Try.prog W .any base t v := hval0
  have hW' := hW
  obtain ⟨p, q, hA0, hV, rfl, hfz, hnd⟩ := hW
  have hA : DataW.TrodAll enc Try.prog W 0 (fun _ => true) true Try.f7.params.toList args.toList ds p := hA0
  rw [Try.params7] at hA hval
  obtain ⟨v0, vs0, d0, ds0, p0, q0, hargs, rfl, rfl, h0, r0⟩ := trodAll_cons hA
  obtain ⟨v1, vs1, d1, ds1, p1, q1, rfl, rfl, rfl, h1, r1⟩ := trodAll_cons r0
  obtain ⟨rfl, rfl, rfl⟩ := trodAll_nil r1
  obtain rfl : args = #[v0, v1] := by cases args; simp_all
  obtain ⟨rfl, rfl⟩ := trodVars_none hV
  have k0 := h0
  have lt0 : ∀ x ∈ p0, x.block < W.heap.size := by obtain ⟨m, hm⟩ := k0; exact DataW.trod_lt m _ _ _ hm
  have k1 := h1
  have lt1 : ∀ x ∈ p1, x.block < W.heap.size := by obtain ⟨m, hm⟩ := k1; exact DataW.trod_lt m _ _ _ hm
  obtain ⟨a0, rfl⟩ := open_key (hval 0 24 v0 rfl rfl) h0
  obtain ⟨a1, rfl⟩ := open_q32 (hval 1 22 v1 rfl rfl) h1
  clear hA0 hval0
  refine (first_walk a0 a1 W).mono fun e W' ⟨he, bel⟩ => ?_
  subst he
  exact ⟨_, rfl, _, _, _, [], _, [], hW', trodAll_mk1 (shut_bool Try.underlying4 _), (trodAll_cons_mk (Below.trod laidOut (by kernel_rfl) (of_decide_eq_true (by kernel_rfl)) k0 bel lt0) (trodAll_cons_mk (Below.trod laidOut (by kernel_rfl) (of_decide_eq_true (by kernel_rfl)) k1 bel lt1) trodAll_mk0)), rfl, bel.frame _, fun h => by cases h⟩

theorem cipherFirst_over : Rows.cipherFirstRow.holds Try.pinned (OpenSpec.ofChange Rows.cipherFirstSpec) :=
  OpenClaim.holds_of_wide 7 Try.f7 rfl rfl rfl rfl rfl rfl rfl ⟨rfl, rfl, rfl, rfl, rfl⟩ rfl rfl rfl rfl rfl (by kernel_rfl) Try.func7 (by kernel_rfl)
    (of_decide_eq_true (by kernel_rfl)) (by unfold Func.isWrapper; rw [if_neg (of_decide_eq_false (by kernel_rfl))]; exact ⟨rfl, rfl⟩)
    (fun os started H enc _ => cipherFirst_lifted os started H enc)

/-- THE STATEMENT. -/
theorem cipherFirst_holds : Rows.CipherFirstSaid := cipherFirst_over
end Go.Proofs.Ytcmchgfhnmndeaa
