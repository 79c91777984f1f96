/- PduSeals: any PDU is sealed, and right, under any key as the document says. -/
import Derived.Test.YtchjcfbhpgigjaaAwake9
import Derived.Test.YtchjcfbhpgigjaaPduIn
set_option linter.unusedSimpArgs false
set_option linter.unusedVariables false
namespace Go.Proofs.Ytchjcfbhpgigjaa
open Go.ChangeShapes Go.WideShapes Go.ChangeAt Go.RowKit
open Go.ChangeMaps (open_string shut_string)

set_option maxHeartbeats 4000000 in
theorem pduSeals_walk (k : K4) (v : Value) (p : P7) (w : World) (hv : IsPduB p v w) : Calls Try.prog 5 #[.agg #[q32 k.k0, q32 k.k1, q32 k.k2, q32 k.k3], v] w fun e w' => e = .returned (.bool true) ∧ Below w.heap.size w w' := by
  obtain ⟨A, c, rfl, hB⟩ := hv
  have hl := hB.len_le
  by_cases hlen : p.body.length ≤ 2000
  · obtain ⟨kind, dir, train, a, b, body, mac⟩ := p
    simp only at hB hl hlen ⊢
    obtain ⟨n, hn⟩ : ∃ n, body.length = n := ⟨_, rfl⟩
    have hps := fun W (h : Bytes W A c body) => pseal_k k kind dir train a b body mac A n c W hn h hlen
    have hrs := fun W (h : Bytes W A c body) => rseal_k k kind dir train a b body mac A n c W hn h hlen
    have hpr := fun W (h : Bytes W A c body) => pright_k k ⟨kind, dir, train, a, b, body, mac⟩ A n c W hn.symm h hlen
    have hrr := fun W (h : Bytes W A c body) => prright_k k ⟨kind, dir, train, a, b, body, mac⟩ A n c W hn.symm h hlen
    rw [hn] at hl hlen ⊢
    generalize seal7 k ⟨kind, dir, train, a, b, body, mac⟩ = q at hps hrs
    generalize right7 k ⟨kind, dir, train, a, b, body, mac⟩ = rb at hpr hrr
    have hsm : ∀ v1 v2 W, IsPduB q v1 W → IsPduB q v2 W → Calls Try.prog 18 #[v1, v2] W fun e w' => e = .returned (.bool true) ∧ Below W.heap.size W w' := by
      intro v1 v2 W h1 h2
      have := same_v q q v1 v2 W h1 h2
      rwa [decide_eq_true rfl] at this
    go_enter Try.func5, Try.ntmps5
    go_wp2_with (go_at_call 9; (with_reducible refine (awake9_any _).mono ?_); rintro e w1 ⟨rfl, hb1⟩; obtain ⟨hcR1, _⟩ := bcell hb1; have hz1 : w.heap.size + 1 < w1.heap.size := (by have := hb1.size; simp at this; omega); have hz0 : w.heap.size < w1.heap.size := (by omega); have hbw := below_of_alloc (below_of_alloc hb1))
    have hB1 := hB.below hbw
    have hkB1 : Blk w1 w.heap.size 38 #[q32 k.k0, q32 k.k1, q32 k.k2, q32 k.k3] := ((Blk.new w 38 #[q32 k.k0, q32 k.k1, q32 k.k2, q32 k.k3]).alloc _).below hb1 (by simp; omega)
    have hpB1 : Blk w1 (w.heap.size + 1) 26 #[.int .i64 kind, .int .i64 dir, .int .i64 train, q32 a, q32 b, .slice A n c, q64 mac] := (Blk.newAt _ 26 #[.int .i64 kind, .int .i64 dir, .int .i64 train, q32 a, q32 b, .slice A n c, q64 mac] (w.heap.size + 1) (by simp)).below hb1 (by simp)
    have hck1 := hkB1.cell
    have hcp1 := hpB1.cell
    clear hcR1
    apply wp_region_lex
    case hFl =>
      intro u
      simp only [List.map, fill, Act.put, List.setIfInBounds_toArray, List.set_cons_zero, List.set_cons_succ, Nat.reduceAdd, Nat.zero_add]
      rfl
    case hm => kernel_rfl
    case hB => kernel_rfl
    case hap => kernel_rfl
    iterate 2 (
      apply Lex.is
      · (intro u w' hk hd
         simp [Waited, Region.binds, Is] at hd
         refine looked_want (by first | rfl | simp [Region.wanted, yielded, hd]) ?_
         intro K hK
         obtain ⟨hcR, _⟩ := bcell hk
         go_wp2_with (fail)
         try simp only [hd] at hK
         refine hK _ _ ?_ rfl
         first | exact Below.refl _ _ | exact hb3)
      )
    refine Lex.word (IsPduB q) (fun _ _ _ h hb => h.grow hb) ?_ ?_
    · (intro u w' hk hd
       simp [Waited, Region.binds, Is] at hd
       refine looked_want (by first | rfl | simp [Region.wanted, yielded, hd]) ?_
       intro K hK
       obtain ⟨hcR, _⟩ := bcell hk
       skip
       go_wp2_with (go_at_call 19; (with_reducible refine (hps _ (hB1.below hk)).mono ?_); rintro e w3 ⟨v3, rfl, hv3, hb3⟩)
       try simp only [hd] at hK
       exact hK _ _ hb3 hv3.toB)
    iterate 2 (
      apply Lex.is
      · (intro u w' hk hd
         simp [Waited, Region.binds, Is] at hd
         refine looked_want (by first | rfl | simp [Region.wanted, yielded, hd]) ?_
         intro K hK
         obtain ⟨hcR, _⟩ := bcell hk
         go_wp2_with (fail)
         try simp only [hd] at hK
         refine hK _ _ ?_ rfl
         first | exact Below.refl _ _ | exact hb3)
      )
    refine Lex.word (IsPduB q) (fun _ _ _ h hb => h.grow hb) ?_ ?_
    · (intro u w' hk hd
       simp [Waited, Region.binds, Is] at hd
       refine looked_want (by first | rfl | simp [Region.wanted, yielded, hd]) ?_
       intro K hK
       obtain ⟨hcR, _⟩ := bcell hk
       skip
       go_wp2_with (go_at_call 20; (with_reducible refine (hrs _ (hB1.below hk)).mono ?_); rintro e w3 ⟨v3, rfl, hv3, hb3⟩)
       try simp only [hd] at hK
       exact hK _ _ hb3 hv3)
    refine Lex.is (c := .bool true) ?_ ?_
    · (intro u w' hk hd
       simp [Waited, Region.binds, Is] at hd
       obtain ⟨hd1, hd2⟩ := hd
       refine looked_want (by first | rfl | simp [Region.wanted, yielded]) ?_
       intro K hK
       go_wp2_with (go_at_call 18; go_loud (with_reducible refine (hsm (u 2) (u 5) _ hd1 hd2).mono ?_); rintro e wx ⟨rfl, hbx⟩)
       exact hK _ _ hbx rfl)
    apply Lex.is
    · (intro u w' hk hd
       simp [Waited, Region.binds, Is] at hd
       refine looked_want (by first | rfl | simp [Region.wanted, yielded, hd]) ?_
       intro K hK
       obtain ⟨hcR, _⟩ := bcell hk
       go_wp2_with (fail)
       try simp only [hd] at hK
       refine hK _ _ ?_ rfl
       first | exact Below.refl _ _ | exact hb3)
    apply Lex.nil
    intro u w2 hk hd
    simp only [List.nil_append, List.cons_append] at hd
    have hlast := hd 7 _ rfl
    simp only [Is] at hlast
    clear hd
    simp only [hlast]
    go_wp2_with fail
    have hkB2 := hkB1.below hk hkB1.lt
    have hpB2 := hpB1.below hk hpB1.lt
    have hB2 := hB1.below hk
    have hbw2 := below_then hbw hk
    have hck2 := hkB2.cell
    have hcp2 := hpB2.cell
    have hzk2 := hkB2.lt
    have hzp2 := hpB2.lt
    clear hck1 hcp1 hz1 hz0 hk
    apply wp_region_lex
    case hFl =>
      intro u
      simp only [List.map, fill, Act.put, List.setIfInBounds_toArray, List.set_cons_zero, List.set_cons_succ, Nat.reduceAdd, Nat.zero_add]
      rfl
    case hm => kernel_rfl
    case hB => kernel_rfl
    case hap => kernel_rfl
    iterate 4 (
      apply Lex.is
      · (intro u w' hk hd
         simp [Waited, Region.binds, Is] at hd
         refine looked_want (by first | rfl | simp [Region.wanted, yielded, hd]) ?_
         intro K hK
         obtain ⟨hcR, _⟩ := bcell hk
         go_wp2_with (fail)
         try simp only [hd] at hK
         refine hK _ _ ?_ rfl
         first | exact Below.refl _ _ | exact hb3)
      )
    apply Lex.is
    · (intro u w' hk hd
       simp [Waited, Region.binds, Is] at hd
       refine looked_want (by first | rfl | simp [Region.wanted, yielded, hd]) ?_
       intro K hK
       obtain ⟨hcR, _⟩ := bcell hk
       go_wp2_with ((go_at_call 21; (with_reducible refine (hpr _ (hB2.below hk)).mono ?_); rintro e wx ⟨rfl, hb3⟩))
       try simp only [hd] at hK
       refine hK _ _ ?_ rfl
       first | exact Below.refl _ _ | exact hb3)
    iterate 2 (
      apply Lex.is
      · (intro u w' hk hd
         simp [Waited, Region.binds, Is] at hd
         refine looked_want (by first | rfl | simp [Region.wanted, yielded, hd]) ?_
         intro K hK
         obtain ⟨hcR, _⟩ := bcell hk
         go_wp2_with (fail)
         try simp only [hd] at hK
         refine hK _ _ ?_ rfl
         first | exact Below.refl _ _ | exact hb3)
      )
    apply Lex.is
    · (intro u w' hk hd
       simp [Waited, Region.binds, Is] at hd
       refine looked_want (by first | rfl | simp [Region.wanted, yielded, hd]) ?_
       intro K hK
       obtain ⟨hcR, _⟩ := bcell hk
       go_wp2_with ((go_at_call 22; (with_reducible refine (hrr _ (hB2.below hk)).mono ?_); rintro e wx ⟨rfl, hb3⟩))
       try simp only [hd] at hK
       refine hK _ _ ?_ rfl
       first | exact Below.refl _ _ | exact hb3)
    iterate 3 (
      apply Lex.is
      · (intro u w' hk hd
         simp [Waited, Region.binds, Is] at hd
         refine looked_want (by first | rfl | simp [Region.wanted, yielded, hd]) ?_
         intro K hK
         obtain ⟨hcR, _⟩ := bcell hk
         go_wp2_with (fail)
         try simp only [hd] at hK
         refine hK _ _ ?_ rfl
         first | exact Below.refl _ _ | exact hb3)
      )
    apply Lex.nil
    intro u2 w5 hk hd
    simp only [List.nil_append, List.cons_append] at hd
    have hlast2 := hd 10 _ rfl
    simp only [Is] at hlast2
    clear hd
    go_wp2_with fail
    go_ret
    exact ⟨congrArg Ending.returned hlast2, below_then hbw2 hk⟩
  · go_enter Try.func5, Try.ntmps5
    go_wp2_with (go_at_call 9; (with_reducible refine (awake9_any _).mono ?_); rintro e w1 ⟨rfl, hb1⟩; obtain ⟨hcR1, _⟩ := bcell hb1; have hz1 : w.heap.size + 1 < w1.heap.size := (by have := hb1.size; simp at this; omega))
    go_ret
    exact ⟨rfl, below_of_alloc (below_of_alloc hb1)⟩

set_option maxRecDepth 100000 in
theorem pduSeals_lifted (os : Os) (started : os.Started) (H : Type) (enc : TypeId × Value → H) :
    ReturnsInHanded {} Try.checked os 5 .any (Rows.pduSealsSpec.pre6 enc Try.prog Try.f5 Rows.pduSealsRow.domain false) (Rows.pduSealsSpec.post enc Try.prog Try.f5 false true false false) := by
  refine returnsInHanded_of_change (C := Try.checked) own started (by kernel_rfl) Try.func5
    (ChangeSpec.witness6 (enc := enc) (C := Try.checked) false ⟨#[], #[.agg #[.int .u32 0, .int .u32 0, .int .u32 0, .int .u32 0], .agg #[.int .i64 0, .int .i64 0, .int .i64 0, .int .u32 0, .int .u32 0, .slice none 0 0, .int .u64 0]], []⟩ 8 (by kernel_rfl) (by kernel_rfl) (by kernel_rfl) (by kernel_rfl)) ?_
  intro W base args ds gs before hval0 hW hcnd _
  have hval : ∀ (j : Nat) t v, Try.f5.params[j]? = some t → args[j]? = some v → Value.okWide Try.prog W .any base t v := hval0
  have hW' := hW
  obtain ⟨p, q, hA0, hV, rfl, hfz, hnd⟩ := hW
  have hA : DataW.TrodAll enc Try.prog W 0 (fun _ => true) true Try.f5.params.toList args.toList ds p := hA0
  rw [Try.params5] at hA hval
  obtain ⟨v0, vs0, d0, ds0, p0, q0, hargs, rfl, rfl, h0, r0⟩ := trodAll_cons hA
  obtain ⟨v1, vs1, d1, ds1, p1, q1, rfl, rfl, rfl, h1, r1⟩ := trodAll_cons r0
  obtain ⟨rfl, rfl, rfl⟩ := trodAll_nil r1
  obtain rfl : args = #[v0, v1] := by cases args; simp_all
  obtain ⟨rfl, rfl⟩ := trodVars_none hV
  have k0 := h0
  have lt0 : ∀ x ∈ p0, x.block < W.heap.size := by obtain ⟨m, hm⟩ := k0; exact DataW.trod_lt m _ _ _ hm
  have k1 := h1
  have lt1 : ∀ x ∈ p1, x.block < W.heap.size := by obtain ⟨m, hm⟩ := k1; exact DataW.trod_lt m _ _ _ hm
  obtain ⟨a0, rfl⟩ := open_key (hval 0 38 v0 rfl rfl) h0
  obtain ⟨s1, b1⟩ := open_pdu (hval 1 26 v1 rfl rfl) h1
  clear hA0 hval0
  refine (pduSeals_walk a0 v1 s1 W b1).mono fun e W' ⟨he, bel⟩ => ?_
  subst he
  exact ⟨_, rfl, _, _, _, [], _, [], hW', trodAll_mk1 (shut_bool Try.underlying4 _), (trodAll_cons_mk (Below.trod laidOut (by kernel_rfl) (of_decide_eq_true (by kernel_rfl)) k0 bel lt0) (trodAll_cons_mk (Below.trod laidOut (by kernel_rfl) (of_decide_eq_true (by kernel_rfl)) k1 bel lt1) trodAll_mk0)), rfl, bel.frame _, fun h => by cases h⟩

theorem pduSeals_over : Rows.pduSealsRow.holds Try.pinned (OpenSpec.ofChange Rows.pduSealsSpec) :=
  OpenClaim.holds_of_wide 5 Try.f5 rfl rfl rfl rfl rfl rfl rfl ⟨rfl, rfl, rfl, rfl, rfl⟩ rfl rfl rfl rfl rfl (by kernel_rfl) Try.func5 (by kernel_rfl)
    (of_decide_eq_true (by kernel_rfl)) (by unfold Func.isWrapper; rw [if_neg (of_decide_eq_false (by kernel_rfl))]; exact ⟨rfl, rfl⟩)
    (fun os started H enc _ => pduSeals_lifted os started H enc)

/-- THE STATEMENT. -/
theorem pduSeals_holds : Rows.PduSealsSaid := pduSeals_over
end Go.Proofs.Ytchjcfbhpgigjaa
