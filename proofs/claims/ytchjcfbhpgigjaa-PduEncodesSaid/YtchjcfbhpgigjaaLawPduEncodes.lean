/- PduEncodes: any PDU has the bytes and the text, or the error, that the document says. -/
import Derived.Test.YtchjcfbhpgigjaaAwake9
import Derived.Test.YtchjcfbhpgigjaaPduIn
set_option linter.unusedSimpArgs false
set_option linter.unusedVariables false
namespace Go.Proofs.Ytchjcfbhpgigjaa
open Go.ChangeShapes Go.WideShapes Go.ChangeAt Go.RowKit
open Go.ChangeMaps (open_string shut_string)

set_option maxHeartbeats 4000000 in
theorem pduEncodes_walk (v : Value) (p : P7) (w : World) (hv : IsPduB p v w) : Calls Try.prog 3 #[v] w fun e w' => e = .returned (.bool true) ∧ Below w.heap.size w w' := by
  obtain ⟨A, c, rfl, hB⟩ := hv
  have hl := hB.len_le
  by_cases hlen : p.body.length ≤ 2000
  · obtain ⟨kind, dir, train, a, b, body, mac⟩ := p
    simp only at hB hl hlen ⊢
    obtain ⟨n, hn⟩ : ∃ n, body.length = n := ⟨_, rfl⟩
    have hpe := fun W (h : Bytes W A c body) => penc_k ⟨kind, dir, train, a, b, body, mac⟩ A n c W hn.symm h hlen
    have hre := fun W (h : Bytes W A c body) => prenc_k ⟨kind, dir, train, a, b, body, mac⟩ A n c W hn h hlen
    have hpt := fun W (h : Bytes W A c body) => text_k ⟨kind, dir, train, a, b, body, mac⟩ A n c W hn.symm h hlen
    have hrt := fun W (h : Bytes W A c body) => rtext_k ⟨kind, dir, train, a, b, body, mac⟩ A n c W hn h hlen
    have hpm := fun W => may_k ⟨kind, dir, train, a, b, body, mac⟩ A n c W hn.symm (by show body.length ≤ _; omega)
    have hrm := fun W => rmay_k ⟨kind, dir, train, a, b, body, mac⟩ A n c W hn.symm (by show body.length ≤ _; omega)
    obtain ⟨er, her⟩ : ∃ er : Int, er = if may ⟨kind, dir, train, a, b, body, mac⟩ then 0 else 1 := ⟨_, rfl⟩
    rw [← her] at hpe hre
    clear her
    rw [hn] at hl hlen ⊢
    generalize enc ⟨kind, dir, train, a, b, body, mac⟩ = en at hpe hre
    generalize text ⟨kind, dir, train, a, b, body, mac⟩ = tx at hpt hrt
    generalize may ⟨kind, dir, train, a, b, body, mac⟩ = mb at hpm hrm
    go_enter Try.func3, Try.ntmps3
    go_wp2_with (first
      | (go_at_call 9; (with_reducible refine (awake9_any _).mono ?_); rintro e w1 ⟨rfl, hb1⟩; obtain ⟨hcR1, _⟩ := bcell hb1; have hz1 : w.heap.size < w1.heap.size := (by have := hb1.size; simp at this; omega); have hbw := below_of_alloc hb1)
      | (go_at_call 10; (with_reducible refine (hpe _ (hB.below hbw)).mono ?_); rintro e w2 ⟨v2, rfl, ⟨A2, c2, rfl, hB2, _⟩, hb2⟩; obtain ⟨hcR2, _⟩ := bcell hb2; have hz2 : w.heap.size < w2.heap.size := (by have := hb2.size; omega))
      | (go_at_call 11; (with_reducible refine (hre _ ((hB.below hbw).below hb2)).mono ?_); rintro e w3 ⟨v3, rfl, ⟨A3, c3, rfl, hB3⟩, hb3⟩; obtain ⟨hcR3, _⟩ := bcell hb3; have hz3 : w.heap.size < w3.heap.size := (by have := hb3.size; omega)))
    have hbw3 := below_then hbw (below_then hb2 hb3)
    have hBw := hB.below hbw3
    have hB2' := hB2.below hb3
    have hcp : ∀ i, w3.cell? ⟨w.heap.size, i, none⟩ = #[.int .i64 kind, .int .i64 dir, .int .i64 train, q32 a, q32 b, .slice A n c, q64 mac][i]? := fun i => (((((Blk.new w 26 #[.int .i64 kind, .int .i64 dir, .int .i64 train, q32 a, q32 b, .slice A n c, q64 mac]).below hb1 (by simp)).below hb2 (by omega)).below hb3 (by omega)).cell i)
    clear hcR1 hcR2 hcR3
    apply wp_region_lex
    case hFl =>
      intro u
      simp only [List.map, fill, Act.put, List.setIfInBounds_toArray, List.set_cons_zero, List.set_cons_succ, Nat.reduceAdd, Nat.zero_add]
      rfl
    case hm => kernel_rfl
    case hB => kernel_rfl
    case hap => kernel_rfl
    apply Lex.is
    · (intro u w' hk hd
       simp [Waited, Region.binds, Is] at hd
       refine looked_want (by first | rfl | simp [Region.wanted, yielded, hd]) ?_
       intro K hK
       obtain ⟨hcR, _⟩ := bcell hk
       go_wp2_with (fail)
       try simp only [hd] at hK
       refine hK _ _ ?_ rfl
       first | exact Below.refl _ _ | exact hb3)
    apply Lex.is
    · (intro u w' hk hd
       simp [Waited, Region.binds, Is] at hd
       refine looked_want (by first | rfl | simp [Region.wanted, yielded, hd]) ?_
       intro K hK
       obtain ⟨hcR, _⟩ := bcell hk
       have hs1 := run_bytes_string (hB2'.below hk)
       go_wp2_with (fail)
       try simp only [hd] at hK
       refine hK _ _ ?_ rfl
       first | exact Below.refl _ _ | exact hb3)
    apply Lex.is
    · (intro u w' hk hd
       simp [Waited, Region.binds, Is] at hd
       refine looked_want (by first | rfl | simp [Region.wanted, yielded, hd]) ?_
       intro K hK
       obtain ⟨hcR, _⟩ := bcell hk
       go_wp2_with (fail)
       try simp only [hd] at hK
       refine hK _ _ ?_ rfl
       first | exact Below.refl _ _ | exact hb3)
    apply Lex.is
    · (intro u w' hk hd
       simp [Waited, Region.binds, Is] at hd
       refine looked_want (by first | rfl | simp [Region.wanted, yielded, hd]) ?_
       intro K hK
       obtain ⟨hcR, _⟩ := bcell hk
       have hs1 := run_bytes_string (hB3.below hk)
       go_wp2_with (fail)
       try simp only [hd] at hK
       refine hK _ _ ?_ rfl
       first | exact Below.refl _ _ | exact hb3)
    iterate 8 (
      apply Lex.is
      · (intro u w' hk hd
         simp [Waited, Region.binds, Is] at hd
         refine looked_want (by first | rfl | simp [Region.wanted, yielded, hd]) ?_
         intro K hK
         obtain ⟨hcR, _⟩ := bcell hk
         go_wp2_with (fail)
         try simp only [hd] at hK
         refine hK _ _ ?_ rfl
         first | exact Below.refl _ _ | exact hb3)
      )
    refine Lex.word (IsBytes tx) (fun _ _ _ h hb => h.grow hb) ?_ ?_
    · (intro u w' hk hd
       simp [Waited, Region.binds, Is] at hd
       refine looked_want (by first | rfl | simp [Region.wanted, yielded, hd]) ?_
       intro K hK
       obtain ⟨hcR, _⟩ := bcell hk
       skip
       go_wp2_with (go_at_call 12; (with_reducible refine (hpt _ (hBw.below hk)).mono ?_); rintro e wx ⟨v3, rfl, hvx, hbx⟩)
       try simp only [hd] at hK
       exact hK _ _ hbx hvx.is)
    refine Lex.is (c := .string (strOf tx)) ?_ ?_
    · (intro u w' hk hd
       simp [Waited, Region.binds, Is] at hd
       obtain ⟨⟨At, ct, hd2, hBt⟩, hd3⟩ := hd
       refine looked_want (by first | rfl | simp [Region.wanted, yielded, hd3]) ?_
       intro K hK
       have hs1 := run_bytes_string hBt
       go_wp2_with fail
       try simp only [hd2, hd3] at hK
       exact hK _ _ (Below.refl _ _) rfl)
    apply Lex.is
    · (intro u w' hk hd
       simp [Waited, Region.binds, Is] at hd
       refine looked_want (by first | rfl | simp [Region.wanted, yielded, hd]) ?_
       intro K hK
       obtain ⟨hcR, _⟩ := bcell hk
       go_wp2_with (fail)
       try simp only [hd] at hK
       refine hK _ _ ?_ rfl
       first | exact Below.refl _ _ | exact hb3)
    refine Lex.word (IsBytes tx) (fun _ _ _ h hb => h.grow hb) ?_ ?_
    · (intro u w' hk hd
       simp [Waited, Region.binds, Is] at hd
       refine looked_want (by first | rfl | simp [Region.wanted, yielded, hd]) ?_
       intro K hK
       obtain ⟨hcR, _⟩ := bcell hk
       skip
       go_wp2_with (go_at_call 13; (with_reducible refine (hrt _ (hBw.below hk)).mono ?_); rintro e wx ⟨Ax, nx, cx, rfl, hnx, hox, hbx⟩)
       try simp only [hd] at hK
       exact hK _ _ hbx ⟨Ax, cx, rfl, hox.bytes⟩)
    refine Lex.is (c := .string (strOf tx)) ?_ ?_
    · (intro u w' hk hd
       simp [Waited, Region.binds, Is] at hd
       obtain ⟨⟨At, ct, hd2, hBt⟩, hd3⟩ := hd
       refine looked_want (by first | rfl | simp [Region.wanted, yielded, hd3]) ?_
       intro K hK
       have hs1 := run_bytes_string hBt
       go_wp2_with fail
       try simp only [hd2, hd3] at hK
       exact hK _ _ (Below.refl _ _) rfl)
    iterate 4 (
      apply Lex.is
      · (intro u w' hk hd
         simp [Waited, Region.binds, Is] at hd
         refine looked_want (by first | rfl | simp [Region.wanted, yielded, hd]) ?_
         intro K hK
         obtain ⟨hcR, _⟩ := bcell hk
         go_wp2_with (fail)
         try simp only [hd] at hK
         refine hK _ _ ?_ rfl
         first | exact Below.refl _ _ | exact hb3)
      )
    apply Lex.is
    · (intro u w' hk hd
       simp [Waited, Region.binds, Is] at hd
       refine looked_want (by first | rfl | simp [Region.wanted, yielded, hd]) ?_
       intro K hK
       obtain ⟨hcR, _⟩ := bcell hk
       go_wp2_with ((go_at_call 14; (with_reducible refine (hpm _).mono ?_); rintro e wx ⟨rfl, hb3⟩))
       try simp only [hd] at hK
       refine hK _ _ ?_ rfl
       first | exact Below.refl _ _ | exact hb3)
    apply Lex.is
    · (intro u w' hk hd
       simp [Waited, Region.binds, Is] at hd
       refine looked_want (by first | rfl | simp [Region.wanted, yielded, hd]) ?_
       intro K hK
       obtain ⟨hcR, _⟩ := bcell hk
       go_wp2_with (fail)
       try simp only [hd] at hK
       refine hK _ _ ?_ rfl
       first | exact Below.refl _ _ | exact hb3)
    apply Lex.is
    · (intro u w' hk hd
       simp [Waited, Region.binds, Is] at hd
       refine looked_want (by first | rfl | simp [Region.wanted, yielded, hd]) ?_
       intro K hK
       obtain ⟨hcR, _⟩ := bcell hk
       go_wp2_with ((go_at_call 15; (with_reducible refine (hrm _).mono ?_); rintro e wx ⟨rfl, hb3⟩))
       try simp only [hd] at hK
       refine hK _ _ ?_ rfl
       first | exact Below.refl _ _ | exact hb3)
    iterate 3 (
      apply Lex.is
      · (intro u w' hk hd
         simp [Waited, Region.binds, Is] at hd
         refine looked_want (by first | rfl | simp [Region.wanted, yielded, hd]) ?_
         intro K hK
         obtain ⟨hcR, _⟩ := bcell hk
         go_wp2_with (fail)
         try simp only [hd] at hK
         refine hK _ _ ?_ rfl
         first | exact Below.refl _ _ | exact hb3)
      )
    apply Lex.nil
    intro u w' hk hd
    simp only [List.nil_append, List.cons_append] at hd
    have hlast := hd 26 _ rfl
    simp only [Is] at hlast
    clear hd
    go_wp2_with fail
    go_ret
    exact ⟨congrArg Ending.returned hlast, below_then hbw3 hk⟩
  · go_enter Try.func3, Try.ntmps3
    go_wp2_with (go_at_call 9; (with_reducible refine (awake9_any _).mono ?_); rintro e w1 ⟨rfl, hb1⟩; obtain ⟨hcR1, _⟩ := bcell hb1; have hz1 : w.heap.size < w1.heap.size := (by have := hb1.size; simp at this; omega))
    go_ret
    exact ⟨rfl, below_of_alloc hb1⟩

set_option maxRecDepth 100000 in
theorem pduEncodes_lifted (os : Os) (started : os.Started) (H : Type) (enc : TypeId × Value → H) :
    ReturnsInHanded {} Try.checked os 3 .any (Rows.pduEncodesSpec.pre6 enc Try.prog Try.f3 Rows.pduEncodesRow.domain false) (Rows.pduEncodesSpec.post enc Try.prog Try.f3 false true false false) := by
  refine returnsInHanded_of_change (C := Try.checked) own started (by kernel_rfl) Try.func3
    (ChangeSpec.witness6 (enc := enc) (C := Try.checked) false ⟨#[], #[.agg #[.int .i64 0, .int .i64 0, .int .i64 0, .int .u32 0, .int .u32 0, .slice none 0 0, .int .u64 0]], []⟩ 8 (by kernel_rfl) (by kernel_rfl) (by kernel_rfl) (by kernel_rfl)) ?_
  intro W base args ds gs before hval0 hW hcnd _
  have hval : ∀ (j : Nat) t v, Try.f3.params[j]? = some t → args[j]? = some v → Value.okWide Try.prog W .any base t v := hval0
  have hW' := hW
  obtain ⟨p, q, hA0, hV, rfl, hfz, hnd⟩ := hW
  have hA : DataW.TrodAll enc Try.prog W 0 (fun _ => true) true Try.f3.params.toList args.toList ds p := hA0
  rw [Try.params3] at hA hval
  obtain ⟨v0, vs0, d0, ds0, p0, q0, hargs, rfl, rfl, h0, r0⟩ := trodAll_cons hA
  obtain ⟨rfl, rfl, rfl⟩ := trodAll_nil r0
  obtain rfl : args = #[v0] := by cases args; simp_all
  obtain ⟨rfl, rfl⟩ := trodVars_none hV
  have k0 := h0
  have lt0 : ∀ x ∈ p0, x.block < W.heap.size := by obtain ⟨m, hm⟩ := k0; exact DataW.trod_lt m _ _ _ hm
  obtain ⟨s0, b0⟩ := open_pdu (hval 0 26 v0 rfl rfl) h0
  clear hA0 hval0
  refine (pduEncodes_walk v0 s0 W b0).mono fun e W' ⟨he, bel⟩ => ?_
  subst he
  exact ⟨_, rfl, _, _, _, [], _, [], hW', trodAll_mk1 (shut_bool Try.underlying4 _), (trodAll_cons_mk (Below.trod laidOut (by kernel_rfl) (of_decide_eq_true (by kernel_rfl)) k0 bel lt0) trodAll_mk0), rfl, bel.frame _, fun h => by cases h⟩

theorem pduEncodes_over : Rows.pduEncodesRow.holds Try.pinned (OpenSpec.ofChange Rows.pduEncodesSpec) :=
  OpenClaim.holds_of_wide 3 Try.f3 rfl rfl rfl rfl rfl rfl rfl ⟨rfl, rfl, rfl, rfl, rfl⟩ rfl rfl rfl rfl rfl (by kernel_rfl) Try.func3 (by kernel_rfl)
    (of_decide_eq_true (by kernel_rfl)) (by unfold Func.isWrapper; rw [if_neg (of_decide_eq_false (by kernel_rfl))]; exact ⟨rfl, rfl⟩)
    (fun os started H enc _ => pduEncodes_lifted os started H enc)

/-- THE STATEMENT. -/
theorem pduEncodes_holds : Rows.PduEncodesSaid := pduEncodes_over
end Go.Proofs.Ytchjcfbhpgigjaa
