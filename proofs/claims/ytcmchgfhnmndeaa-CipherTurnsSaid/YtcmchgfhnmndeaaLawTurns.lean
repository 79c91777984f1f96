/- CipherTurns: any block becomes, under any key, what the document says, and back. No condition. -/
import Derived.Test.YtcmchgfhnmndeaaAwake7
import Derived.Test.YtcmchgfhnmndeaaLawAid
import Derived.Test.YtcmchgfhnmndeaaKin
import Derived.Test.YtcmchgfhnmndeaaRef7
namespace Go.Proofs.Ytcmchgfhnmndeaa
open Go.ChangeShapes Go.WideShapes Go.ChangeAt Go.RowKit
open Go.ChangeMaps (open_string shut_string)

set_option maxHeartbeats 1000000 in
theorem turns_walk (k : K4) (x : BitVec 64) (w : World) : Calls Try.prog 4 #[.agg #[q32 k.k0, q32 k.k1, q32 k.k2, q32 k.k3], q64 x] w fun e w' => e = .returned (.bool true) ∧ Below w.heap.size w w' := by
  go_enter Try.func4, Try.ntmps4
  go_wp2_with (go_at_call 8; (with_reducible refine (awake7_any _).mono ?_); rintro e w1 ⟨rfl, hb⟩; obtain ⟨hc, _⟩ := bcell hb; have hz : w.heap.size < w1.heap.size := by have := hb.size; simp at this; omega)
  refine wp_region_kin (by kernel_rfl) (by kernel_rfl) ?_
  repeat (go_big_quiet_step ((first | (go_at_call 11; exact kin_call (enc_k _ _ _)) | (go_at_call 12; exact kin_call (renc_k _ _ _)) | (go_at_call 13; exact kin_call (dec_k _ _ _)) | (go_at_call 14; exact kin_call (rdec_k _ _ _)))))
  refine wpQuiet_nil ?_
  rintro _ ⟨⟨W, hW⟩, rfl⟩
  go_wp2
  go_ret
  exact ⟨rfl, below_then (below_of_alloc hb) hW⟩

set_option maxRecDepth 100000 in
theorem cipherTurns_lifted (os : Os) (started : os.Started) (H : Type) (enc : TypeId × Value → H) :
    ReturnsInHanded {} Try.checked os 4 .any (Rows.cipherTurnsSpec.pre6 enc Try.prog Try.f4 Rows.cipherTurnsRow.domain false) (Rows.cipherTurnsSpec.post enc Try.prog Try.f4 false true false false) := by
  refine returnsInHanded_of_change (C := Try.checked) own started (by kernel_rfl) Try.func4
    (ChangeSpec.witness6 (enc := enc) (C := Try.checked) false ⟨#[], #[.agg #[.int .u32 0, .int .u32 0, .int .u32 0, .int .u32 0], .int .u64 0], []⟩ 8 (by kernel_rfl) (by kernel_rfl) (by kernel_rfl) (by kernel_rfl)) ?_
  intro W base args ds gs before hval0 hW hcnd _
  have hval : ∀ (j : Nat) t v, Try.f4.params[j]? = some t → args[j]? = some v → Value.okWide Try.prog W .any base t v := hval0
  have hW' := hW
  obtain ⟨p, q, hA0, hV, rfl, hfz, hnd⟩ := hW
  have hA : DataW.TrodAll enc Try.prog W 0 (fun _ => true) true Try.f4.params.toList args.toList ds p := hA0
  rw [Try.params4] at hA hval
  obtain ⟨v0, vs0, d0, ds0, p0, q0, hargs, rfl, rfl, h0, r0⟩ := trodAll_cons hA
  obtain ⟨v1, vs1, d1, ds1, p1, q1, rfl, rfl, rfl, h1, r1⟩ := trodAll_cons r0
  obtain ⟨rfl, rfl, rfl⟩ := trodAll_nil r1
  obtain rfl : args = #[v0, v1] := by cases args; simp_all
  obtain ⟨rfl, rfl⟩ := trodVars_none hV
  have k0 := h0
  have lt0 : ∀ x ∈ p0, x.block < W.heap.size := by obtain ⟨m, hm⟩ := k0; exact DataW.trod_lt m _ _ _ hm
  have k1 := h1
  have lt1 : ∀ x ∈ p1, x.block < W.heap.size := by obtain ⟨m, hm⟩ := k1; exact DataW.trod_lt m _ _ _ hm
  obtain ⟨a0, rfl⟩ := open_key (hval 0 24 v0 rfl rfl) h0
  obtain ⟨a1, rfl⟩ := open_q64 (hval 1 29 v1 rfl rfl) h1
  clear hA0 hval0
  refine (turns_walk a0 a1 W).mono fun e W' ⟨he, bel⟩ => ?_
  subst he
  exact ⟨_, rfl, _, _, _, [], _, [], hW', trodAll_mk1 (shut_bool Try.underlying4 _), (trodAll_cons_mk (Below.trod laidOut (by kernel_rfl) (of_decide_eq_true (by kernel_rfl)) k0 bel lt0) (trodAll_cons_mk (Below.trod laidOut (by kernel_rfl) (of_decide_eq_true (by kernel_rfl)) k1 bel lt1) trodAll_mk0)), rfl, bel.frame _, fun h => by cases h⟩

theorem cipherTurns_over : Rows.cipherTurnsRow.holds Try.pinned (OpenSpec.ofChange Rows.cipherTurnsSpec) :=
  OpenClaim.holds_of_wide 4 Try.f4 rfl rfl rfl rfl rfl rfl rfl ⟨rfl, rfl, rfl, rfl, rfl⟩ rfl rfl rfl rfl rfl (by kernel_rfl) Try.func4 (by kernel_rfl)
    (of_decide_eq_true (by kernel_rfl)) (by unfold Func.isWrapper; rw [if_neg (of_decide_eq_false (by kernel_rfl))]; exact ⟨rfl, rfl⟩)
    (fun os started H enc _ => cipherTurns_lifted os started H enc)

/-- THE STATEMENT. -/
theorem cipherTurns_holds : Rows.CipherTurnsSaid := cipherTurns_over
end Go.Proofs.Ytcmchgfhnmndeaa
