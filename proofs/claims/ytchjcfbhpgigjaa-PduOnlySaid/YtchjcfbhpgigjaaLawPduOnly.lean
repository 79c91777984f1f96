/- PduOnly: what any bytes are has just these bytes. -/
import Derived.Test.YtchjcfbhpgigjaaAwake9
import Derived.Test.YtchjcfbhpgigjaaBytesIn
set_option linter.unusedSimpArgs false
set_option linter.unusedVariables false
namespace Go.Proofs.Ytchjcfbhpgigjaa
open Go.ChangeShapes Go.WideShapes Go.ChangeAt Go.RowKit
open Go.ChangeMaps (open_string shut_string)

theorem body_le (q : P7) (h : may q = true) : q.body.length ≤ (enc q).length := by
  unfold enc
  rw [if_pos h]
  unfold textB
  simp only [List.length_append]
  omega
set_option maxHeartbeats 2000000 in
theorem pduOnly_walk (v : Value) (bs : List UInt8) (w : World) (hv : IsBytes bs v w) : Calls Try.prog 7 #[v] w fun e w' => e = .returned (.bool true) ∧ Below w.heap.size w w' := by
  obtain ⟨A, c, rfl, hB⟩ := hv
  have hl := hB.len_le
  by_cases hlen : bs.length ≤ 2000
  · have hde := fun W (h : Bytes W A c bs) => pdec_k A _ c bs W rfl h hlen
    cases hd : decI bs with
    | none =>
      have hde0 : ∀ W, Bytes W A c bs → Calls Try.prog 16 #[.slice A bs.length c] W fun e w' => ∃ A' c', e = .returned (.tuple #[.agg #[.int .i64 0, .int .i64 0, .int .i64 0, .int .u32 0, .int .u32 0, .slice A' 0 c', .int .u64 0], .int .i64 8]) ∧ Below W.heap.size W w' := by
        intro W h
        refine (hde W h).mono ?_
        rw [hd]
        rintro e w' ⟨v, rfl, ⟨bv, rfl, A', c', rfl, _⟩, hb⟩
        exact ⟨A', c', rfl, hb⟩
      clear hde hd
      go_enter Try.func7, Try.ntmps7
      go_wp2_with (first
        | (go_at_call 9; (with_reducible refine (awake9_any _).mono ?_); rintro e w1 ⟨rfl, hb1⟩)
        | (go_at_call 16; (with_reducible refine (hde0 _ (hB.below hb1)).mono ?_); rintro e w2 ⟨A2, c2, rfl, hb2⟩))
      go_ret
      exact ⟨rfl, below_then hb1 (below_then hb2 ((Below.refl _ _).alloc (Nat.le_refl _) _))⟩
    | some q =>
      obtain ⟨hm, he⟩ := (decI_spec bs q).1 hd
      have hb0 := body_le q hm
      rw [he] at hb0
      have hde1 : ∀ W, Bytes W A c bs → Calls Try.prog 16 #[.slice A bs.length c] W fun e w' => ∃ A' c', e = .returned (.tuple #[.agg #[.int .i64 q.kind, .int .i64 q.dir, .int .i64 q.train, q32 q.a, q32 q.b, .slice A' q.body.length c', q64 q.mac], .int .i64 0]) ∧ Bytes w' A' c' q.body ∧ Below W.heap.size W w' := by
        intro W h
        refine (hde W h).mono ?_
        rw [hd]
        rintro e w' ⟨v, rfl, ⟨bv, rfl, A', c', rfl, hB', _⟩, hb⟩
        exact ⟨A', c', rfl, hB', hb⟩
      have hen : ∀ W A' c', Bytes W A' c' q.body → Calls Try.prog 10 #[.agg #[.int .i64 q.kind, .int .i64 q.dir, .int .i64 q.train, q32 q.a, q32 q.b, .slice A' q.body.length c', q64 q.mac]] W fun e w' => ∃ A' c', e = .returned (.tuple #[.slice A' bs.length c', .int .i64 0]) ∧ Bytes w' A' c' bs ∧ Below W.heap.size W w' := by
        intro W A' c' h
        refine (penc_k q A' _ c' W rfl h (by omega)).mono ?_
        rintro e w' ⟨v, rfl, ⟨A', c', rfl, hB', _⟩, hb⟩
        rw [he] at hB'
        refine ⟨A', c', ?_, hB', hb⟩
        rw [hm, he]
        rfl
      clear hde hd hm he
      go_enter Try.func7, Try.ntmps7
      go_wp2_with (first
        | (go_at_call 9; (with_reducible refine (awake9_any _).mono ?_); rintro e w1 ⟨rfl, hb1⟩)
        | (go_at_call 16; (with_reducible refine (hde1 _ (hB.below hb1)).mono ?_); rintro e w2 ⟨A2, c2, rfl, hB2, hb2⟩)
        | (go_at_call 10; (with_reducible refine (hen _ _ _ (hB2.alloc _)).mono ?_); rintro e w3 ⟨A3, c3, rfl, hB3, hb3⟩; have s1 := run_bytes_string hB3; have s2 := run_bytes_string (((hB.below hb1).below hb2).below (below_of_alloc hb3))))
      go_ret
      exact ⟨rfl, below_then hb1 (below_then hb2 (below_of_alloc hb3))⟩
  · go_enter Try.func7, Try.ntmps7
    go_wp2_with (go_at_call 9; (with_reducible refine (awake9_any _).mono ?_); rintro e w1 ⟨rfl, hb1⟩)
    go_ret
    exact ⟨rfl, hb1⟩

set_option maxRecDepth 100000 in
theorem pduOnly_lifted (os : Os) (started : os.Started) (H : Type) (enc : TypeId × Value → H) :
    ReturnsInHanded {} Try.checked os 7 .any (Rows.pduOnlySpec.pre6 enc Try.prog Try.f7 Rows.pduOnlyRow.domain false) (Rows.pduOnlySpec.post enc Try.prog Try.f7 false true false false) := by
  refine returnsInHanded_of_change (C := Try.checked) own started (by kernel_rfl) Try.func7
    (ChangeSpec.witness6 (enc := enc) (C := Try.checked) false ⟨#[], #[.slice none 0 0], []⟩ 8 (by kernel_rfl) (by kernel_rfl) (by kernel_rfl) (by kernel_rfl)) ?_
  intro W base args ds gs before hval0 hW hcnd _
  have hval : ∀ (j : Nat) t v, Try.f7.params[j]? = some t → args[j]? = some v → Value.okWide Try.prog W .any base t v := hval0
  have hW' := hW
  obtain ⟨p, q, hA0, hV, rfl, hfz, hnd⟩ := hW
  have hA : DataW.TrodAll enc Try.prog W 0 (fun _ => true) true Try.f7.params.toList args.toList ds p := hA0
  rw [Try.params7] at hA hval
  obtain ⟨v0, vs0, d0, ds0, p0, q0, hargs, rfl, rfl, h0, r0⟩ := trodAll_cons hA
  obtain ⟨rfl, rfl, rfl⟩ := trodAll_nil r0
  obtain rfl : args = #[v0] := by cases args; simp_all
  obtain ⟨rfl, rfl⟩ := trodVars_none hV
  have k0 := h0
  have lt0 : ∀ x ∈ p0, x.block < W.heap.size := by obtain ⟨m, hm⟩ := k0; exact DataW.trod_lt m _ _ _ hm
  obtain ⟨s0, b0⟩ := open_bytes (hval 0 23 v0 rfl rfl) h0
  clear hA0 hval0
  refine (pduOnly_walk v0 s0 W b0).mono fun e W' ⟨he, bel⟩ => ?_
  subst he
  exact ⟨_, rfl, _, _, _, [], _, [], hW', trodAll_mk1 (shut_bool Try.underlying4 _), (trodAll_cons_mk (Below.trod laidOut (by kernel_rfl) (of_decide_eq_true (by kernel_rfl)) k0 bel lt0) trodAll_mk0), rfl, bel.frame _, fun h => by cases h⟩

theorem pduOnly_over : Rows.pduOnlyRow.holds Try.pinned (OpenSpec.ofChange Rows.pduOnlySpec) :=
  OpenClaim.holds_of_wide 7 Try.f7 rfl rfl rfl rfl rfl rfl rfl ⟨rfl, rfl, rfl, rfl, rfl⟩ rfl rfl rfl rfl rfl (by kernel_rfl) Try.func7 (by kernel_rfl)
    (of_decide_eq_true (by kernel_rfl)) (by unfold Func.isWrapper; rw [if_neg (of_decide_eq_false (by kernel_rfl))]; exact ⟨rfl, rfl⟩)
    (fun os started H enc _ => pduOnly_lifted os started H enc)

/-- THE STATEMENT. -/
theorem pduOnly_holds : Rows.PduOnlySaid := pduOnly_over
end Go.Proofs.Ytchjcfbhpgigjaa
