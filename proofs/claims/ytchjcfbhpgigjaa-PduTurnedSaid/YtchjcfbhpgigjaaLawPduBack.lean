/- PduBack: the bytes of a PDU are that PDU. -/
import Derived.Test.YtchjcfbhpgigjaaAwake9
import Derived.Test.YtchjcfbhpgigjaaPduIn
set_option linter.unusedSimpArgs false
set_option linter.unusedVariables false
namespace Go.Proofs.Ytchjcfbhpgigjaa
open Go.ChangeShapes Go.WideShapes Go.ChangeAt Go.RowKit
open Go.ChangeMaps (open_string shut_string)

theorem enc_le (p : P7) (h : may p = true) : (enc p).length ≤ 2000 := by
  have hM := may_iff.1 h
  unfold MayP at hM
  have hb : p.body.length ≤ 1023 := by omega
  have h1 := textB_len p
  unfold enc
  rw [if_pos h, List.length_append]
  have h2 : (if 1 < p.kind then be 8 p.mac.toNat else []).length ≤ 8 := by split <;> simp [be_length]
  omega
set_option maxHeartbeats 4000000 in
theorem pduBack_walk (v : Value) (p : P7) (w : World) (hv : IsPduB p v w) : Calls Try.prog 6 #[v] w fun e w' => e = .returned (.bool true) ∧ Below w.heap.size w w' := by
  obtain ⟨A, c, rfl, hB⟩ := hv
  have hl := hB.len_le
  by_cases hlen : p.body.length ≤ 2000
  · have hpe := fun W (h : Bytes W A c p.body) => penc_k p A _ c W rfl h hlen
    have hma := fun W => may_k p A _ c W rfl (by omega : p.body.length ≤ 65536)
    cases hm : may p with
    | false =>
      have hpe0 : ∀ W, Bytes W A c p.body → Calls Try.prog 10 #[.agg #[.int .i64 p.kind, .int .i64 p.dir, .int .i64 p.train, q32 p.a, q32 p.b, .slice A p.body.length c, q64 p.mac]] W fun e w' => ∃ A' c', e = .returned (.tuple #[.slice A' 0 c', .int .i64 1]) ∧ Below W.heap.size W w' := by
        intro W h
        refine (hpe W h).mono ?_
        rintro e w' ⟨v, rfl, ⟨A', c', rfl, _⟩, hb⟩
        refine ⟨A', c', ?_, hb⟩
        rw [show enc p = [] by simp [enc, hm], hm]
        rfl
      rw [hm] at hma
      clear hpe hm
      go_enter Try.func6, Try.ntmps6
      go_wp2_with (first
        | (go_at_call 9; (with_reducible refine (awake9_any _).mono ?_); rintro e w1 ⟨rfl, hb1⟩; obtain ⟨hcR1, _⟩ := bcell hb1; have hz1 : w.heap.size < w1.heap.size := (by have := hb1.size; simp at this; omega); have hbw := below_of_alloc hb1)
        | (go_at_call 10; (with_reducible refine (hpe0 _ (hB.below hbw)).mono ?_); rintro e w2 ⟨A2, c2, rfl, hb2⟩; obtain ⟨hcR2, _⟩ := bcell hb2; have hz2 : w.heap.size < w2.heap.size := (by have := hb2.size; omega))
        | (go_at_call 14; (with_reducible refine (hma _).mono ?_); rintro e w3 ⟨rfl, hb3⟩))
      go_ret
      exact ⟨rfl, below_then hbw (below_then hb2 hb3)⟩
    | true =>
      obtain ⟨en, hen⟩ : ∃ en, en = enc p := ⟨_, rfl⟩
      have hel := enc_le p hm
      have hpe1 : ∀ W, Bytes W A c p.body → Calls Try.prog 10 #[.agg #[.int .i64 p.kind, .int .i64 p.dir, .int .i64 p.train, q32 p.a, q32 p.b, .slice A p.body.length c, q64 p.mac]] W fun e w' => ∃ A' c', e = .returned (.tuple #[.slice A' en.length c', .int .i64 0]) ∧ Bytes w' A' c' en ∧ Below W.heap.size W w' := by
        intro W h
        refine (hpe W h).mono ?_
        rintro e w' ⟨v, rfl, ⟨A', c', rfl, hB', _⟩, hb⟩
        rw [← hen] at hB'
        refine ⟨A', c', ?_, hB', hb⟩
        rw [hm, hen]
        rfl
      have hde : ∀ W A' c', Bytes W A' c' en → Calls Try.prog 16 #[.slice A' en.length c'] W fun e w' => ∃ A2 c2, e = .returned (.tuple #[.agg #[.int .i64 p.kind, .int .i64 p.dir, .int .i64 p.train, q32 p.a, q32 p.b, .slice A2 p.body.length c2, q64 p.mac], .int .i64 0]) ∧ Bytes w' A2 c2 p.body ∧ Below W.heap.size W w' := by
        intro W A' c' h
        refine (pdec_k A' _ c' en W rfl h (by rw [hen]; exact hel)).mono ?_
        rw [(decI_spec en p).2 ⟨hm, hen.symm⟩]
        rintro e w' ⟨v, rfl, ⟨bv, rfl, A2, c2, rfl, hB2, _⟩, hb⟩
        exact ⟨A2, c2, rfl, hB2, hb⟩
      have hsm : ∀ W A1 c1 A2 c2, Bytes W A1 c1 p.body → Bytes W A2 c2 p.body → Calls Try.prog 18 #[.agg #[.int .i64 p.kind, .int .i64 p.dir, .int .i64 p.train, q32 p.a, q32 p.b, .slice A1 p.body.length c1, q64 p.mac], .agg #[.int .i64 p.kind, .int .i64 p.dir, .int .i64 p.train, q32 p.a, q32 p.b, .slice A2 p.body.length c2, q64 p.mac]] W fun e w' => e = .returned (.bool true) ∧ Below W.heap.size W w' := fun W A1 c1 A2 c2 h1 h2 => by
        have := same_k p p A1 _ c1 A2 _ c2 W rfl rfl h1 h2
        rwa [decide_eq_true rfl] at this
      rw [hm] at hma
      clear hpe hm hen hel
      go_enter Try.func6, Try.ntmps6
      go_wp2_with (first
        | (go_at_call 9; (with_reducible refine (awake9_any _).mono ?_); rintro e w1 ⟨rfl, hb1⟩; obtain ⟨hcR1, _⟩ := bcell hb1; have hz1 : w.heap.size < w1.heap.size := (by have := hb1.size; simp at this; omega); have hbw := below_of_alloc hb1)
        | (go_at_call 10; (with_reducible refine (hpe1 _ (hB.below hbw)).mono ?_); rintro e w2 ⟨A2, c2, rfl, hB2, hb2⟩; obtain ⟨hcR2, _⟩ := bcell hb2; have hz2 : w.heap.size < w2.heap.size := (by have := hb2.size; omega))
        | (go_at_call 16; (with_reducible refine (hde _ _ _ hB2).mono ?_); rintro e w3 ⟨A3, c3, rfl, hB3, hb3⟩; obtain ⟨hcR3, _⟩ := bcell hb3; have hz3 : w.heap.size < w3.heap.size := (by have := hb3.size; omega))
        | (go_at_call 18; (with_reducible refine (hsm _ _ _ _ _ ((((hB.below hbw).below hb2).below hb3).alloc _) (hB3.alloc _)).mono ?_); rintro e w4 ⟨rfl, hb4⟩; obtain ⟨hcR4, _⟩ := bcell hb4; have hz4 : w.heap.size < w4.heap.size := (by have := hb4.size; simp at this; omega))
        | (go_at_call 14; (with_reducible refine (hma _).mono ?_); rintro e w5 ⟨rfl, hb5⟩))
      go_ret
      exact ⟨rfl, below_then hbw (below_then hb2 (below_then hb3 (below_then (below_of_alloc hb4) hb5)))⟩
  · go_enter Try.func6, Try.ntmps6
    go_wp2_with (go_at_call 9; (with_reducible refine (awake9_any _).mono ?_); rintro e w1 ⟨rfl, hb1⟩; obtain ⟨hcR1, _⟩ := bcell hb1; have hz1 : w.heap.size < w1.heap.size := (by have := hb1.size; simp at this; omega))
    go_ret
    exact ⟨rfl, below_of_alloc hb1⟩

set_option maxRecDepth 100000 in
theorem pduBack_lifted (os : Os) (started : os.Started) (H : Type) (enc : TypeId × Value → H) :
    ReturnsInHanded {} Try.checked os 6 .any (Rows.pduBackSpec.pre6 enc Try.prog Try.f6 Rows.pduBackRow.domain false) (Rows.pduBackSpec.post enc Try.prog Try.f6 false true false false) := by
  refine returnsInHanded_of_change (C := Try.checked) own started (by kernel_rfl) Try.func6
    (ChangeSpec.witness6 (enc := enc) (C := Try.checked) false ⟨#[], #[.agg #[.int .i64 0, .int .i64 0, .int .i64 0, .int .u32 0, .int .u32 0, .slice none 0 0, .int .u64 0]], []⟩ 8 (by kernel_rfl) (by kernel_rfl) (by kernel_rfl) (by kernel_rfl)) ?_
  intro W base args ds gs before hval0 hW hcnd _
  have hval : ∀ (j : Nat) t v, Try.f6.params[j]? = some t → args[j]? = some v → Value.okWide Try.prog W .any base t v := hval0
  have hW' := hW
  obtain ⟨p, q, hA0, hV, rfl, hfz, hnd⟩ := hW
  have hA : DataW.TrodAll enc Try.prog W 0 (fun _ => true) true Try.f6.params.toList args.toList ds p := hA0
  rw [Try.params6] at hA hval
  obtain ⟨v0, vs0, d0, ds0, p0, q0, hargs, rfl, rfl, h0, r0⟩ := trodAll_cons hA
  obtain ⟨rfl, rfl, rfl⟩ := trodAll_nil r0
  obtain rfl : args = #[v0] := by cases args; simp_all
  obtain ⟨rfl, rfl⟩ := trodVars_none hV
  have k0 := h0
  have lt0 : ∀ x ∈ p0, x.block < W.heap.size := by obtain ⟨m, hm⟩ := k0; exact DataW.trod_lt m _ _ _ hm
  obtain ⟨s0, b0⟩ := open_pdu (hval 0 26 v0 rfl rfl) h0
  clear hA0 hval0
  refine (pduBack_walk v0 s0 W b0).mono fun e W' ⟨he, bel⟩ => ?_
  subst he
  exact ⟨_, rfl, _, _, _, [], _, [], hW', trodAll_mk1 (shut_bool Try.underlying4 _), (trodAll_cons_mk (Below.trod laidOut (by kernel_rfl) (of_decide_eq_true (by kernel_rfl)) k0 bel lt0) trodAll_mk0), rfl, bel.frame _, fun h => by cases h⟩

theorem pduBack_over : Rows.pduBackRow.holds Try.pinned (OpenSpec.ofChange Rows.pduBackSpec) :=
  OpenClaim.holds_of_wide 6 Try.f6 rfl rfl rfl rfl rfl rfl rfl ⟨rfl, rfl, rfl, rfl, rfl⟩ rfl rfl rfl rfl rfl (by kernel_rfl) Try.func6 (by kernel_rfl)
    (of_decide_eq_true (by kernel_rfl)) (by unfold Func.isWrapper; rw [if_neg (of_decide_eq_false (by kernel_rfl))]; exact ⟨rfl, rfl⟩)
    (fun os started H enc _ => pduBack_lifted os started H enc)

/-- THE STATEMENT. -/
theorem pduBack_holds : Rows.PduBackSaid := pduBack_over
end Go.Proofs.Ytchjcfbhpgigjaa
