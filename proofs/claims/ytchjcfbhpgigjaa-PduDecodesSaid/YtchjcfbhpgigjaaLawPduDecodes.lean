/- PduDecodes: any bytes are the PDU that the document says, or none. -/
import Derived.Test.YtchjcfbhpgigjaaAwake9
import Derived.Test.YtchjcfbhpgigjaaBytesIn
set_option linter.unusedSimpArgs false
set_option linter.unusedVariables false
namespace Go.Proofs.Ytchjcfbhpgigjaa
open Go.ChangeShapes Go.WideShapes Go.ChangeAt Go.RowKit
open Go.ChangeMaps (open_string shut_string)

set_option maxHeartbeats 2000000 in
theorem pduDecodes_walk (v : Value) (bs : List UInt8) (w : World) (hv : IsBytes bs v w) : Calls Try.prog 4 #[v] w fun e w' => e = .returned (.bool true) ∧ Below w.heap.size w w' := by
  obtain ⟨A, c, rfl, hB⟩ := hv
  have hl := hB.len_le
  by_cases hlen : bs.length ≤ 2000
  · obtain ⟨er, her⟩ : ∃ er : Int, er = if (decI bs).isSome then 0 else 8 := ⟨_, rfl⟩
    obtain ⟨p, hp⟩ : ∃ p, p = (decI bs).getD P7.none_ := ⟨_, rfl⟩
    have hde := fun W (h : Bytes W A c bs) => pdec_k A _ c bs W rfl h hlen
    have hrd := fun W (h : Bytes W A c bs) => prdec_k A _ c bs W rfl h hlen
    rw [← dec_same] at hrd
    rw [← her, ← hp] at hde hrd
    clear her hp
    have hsm : ∀ W A1 c1 A2 c2, Bytes W A1 c1 p.body → Bytes W A2 c2 p.body → Calls Try.prog 18 #[.agg #[.int .i64 p.kind, .int .i64 p.dir, .int .i64 p.train, q32 p.a, q32 p.b, .slice A1 p.body.length c1, q64 p.mac], .agg #[.int .i64 p.kind, .int .i64 p.dir, .int .i64 p.train, q32 p.a, q32 p.b, .slice A2 p.body.length c2, q64 p.mac]] W fun e w' => e = .returned (.bool true) ∧ Below W.heap.size W w' := fun W A1 c1 A2 c2 h1 h2 => by
      have := same_k p p A1 _ c1 A2 _ c2 W rfl rfl h1 h2
      rwa [decide_eq_true rfl] at this
    go_enter Try.func4, Try.ntmps4
    go_wp2_with (first
      | (go_at_call 9; (with_reducible refine (awake9_any _).mono ?_); rintro e w1 ⟨rfl, hb1⟩)
      | (go_at_call 16; (with_reducible refine (hde _ (hB.below hb1)).mono ?_); rintro e w2 ⟨v2, rfl, ⟨bv, rfl, A2, c2, rfl, hB2, _⟩, hb2⟩)
      | (go_at_call 17; (with_reducible refine (hrd _ (((hB.below hb1).below hb2).alloc _)).mono ?_); rintro e w3 ⟨v3, rfl, ⟨A3, c3, rfl, hB3⟩, hb3⟩; obtain ⟨hc3, _⟩ := bcell hb3; have hz3 : w2.heap.size < w3.heap.size := (by have := hb3.size; simp at this; omega))
      | (go_at_call 18; go_loud (with_reducible refine (hsm _ A2 c2 A3 c3 (((hB2.alloc _).below hb3).alloc _) (hB3.alloc _)).mono ?_); rintro e w4 ⟨rfl, hb4⟩))
    go_ret
    exact ⟨rfl, below_then hb1 (below_then hb2 (below_then (below_of_alloc hb3) (below_of_alloc hb4)))⟩
  · go_enter Try.func4, Try.ntmps4
    go_wp2_with (go_at_call 9; (with_reducible refine (awake9_any _).mono ?_); rintro e w1 ⟨rfl, hb1⟩)
    go_ret
    exact ⟨rfl, hb1⟩

set_option maxRecDepth 100000 in
theorem pduDecodes_lifted (os : Os) (started : os.Started) (H : Type) (enc : TypeId × Value → H) :
    ReturnsInHanded {} Try.checked os 4 .any (Rows.pduDecodesSpec.pre6 enc Try.prog Try.f4 Rows.pduDecodesRow.domain false) (Rows.pduDecodesSpec.post enc Try.prog Try.f4 false true false false) := by
  refine returnsInHanded_of_change (C := Try.checked) own started (by kernel_rfl) Try.func4
    (ChangeSpec.witness6 (enc := enc) (C := Try.checked) false ⟨#[], #[.slice none 0 0], []⟩ 8 (by kernel_rfl) (by kernel_rfl) (by kernel_rfl) (by kernel_rfl)) ?_
  intro W base args ds gs before hval0 hW hcnd _
  have hval : ∀ (j : Nat) t v, Try.f4.params[j]? = some t → args[j]? = some v → Value.okWide Try.prog W .any base t v := hval0
  have hW' := hW
  obtain ⟨p, q, hA0, hV, rfl, hfz, hnd⟩ := hW
  have hA : DataW.TrodAll enc Try.prog W 0 (fun _ => true) true Try.f4.params.toList args.toList ds p := hA0
  rw [Try.params4] at hA hval
  obtain ⟨v0, vs0, d0, ds0, p0, q0, hargs, rfl, rfl, h0, r0⟩ := trodAll_cons hA
  obtain ⟨rfl, rfl, rfl⟩ := trodAll_nil r0
  obtain rfl : args = #[v0] := by cases args; simp_all
  obtain ⟨rfl, rfl⟩ := trodVars_none hV
  have k0 := h0
  have lt0 : ∀ x ∈ p0, x.block < W.heap.size := by obtain ⟨m, hm⟩ := k0; exact DataW.trod_lt m _ _ _ hm
  obtain ⟨s0, b0⟩ := open_bytes (hval 0 23 v0 rfl rfl) h0
  clear hA0 hval0
  refine (pduDecodes_walk v0 s0 W b0).mono fun e W' ⟨he, bel⟩ => ?_
  subst he
  exact ⟨_, rfl, _, _, _, [], _, [], hW', trodAll_mk1 (shut_bool Try.underlying4 _), (trodAll_cons_mk (Below.trod laidOut (by kernel_rfl) (of_decide_eq_true (by kernel_rfl)) k0 bel lt0) trodAll_mk0), rfl, bel.frame _, fun h => by cases h⟩

theorem pduDecodes_over : Rows.pduDecodesRow.holds Try.pinned (OpenSpec.ofChange Rows.pduDecodesSpec) :=
  OpenClaim.holds_of_wide 4 Try.f4 rfl rfl rfl rfl rfl rfl rfl ⟨rfl, rfl, rfl, rfl, rfl⟩ rfl rfl rfl rfl rfl (by kernel_rfl) Try.func4 (by kernel_rfl)
    (of_decide_eq_true (by kernel_rfl)) (by unfold Func.isWrapper; rw [if_neg (of_decide_eq_false (by kernel_rfl))]; exact ⟨rfl, rfl⟩)
    (fun os started H enc _ => pduDecodes_lifted os started H enc)

/-- THE STATEMENT. -/
theorem pduDecodes_holds : Rows.PduDecodesSaid := pduDecodes_over
end Go.Proofs.Ytchjcfbhpgigjaa
