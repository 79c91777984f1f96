/- MacGrows: with one block behind them, bytes of one length are alike just if they were ahead of it. -/
import Derived.Test.YtildoeladlflpaaAwake8
import Derived.Test.YtildoeladlflpaaBytesIn
import Derived.Test.YtildoeladlflpaaBytesOwn
import Derived.Test.YtildoeladlflpaaAppZero
import Derived.Test.YtildoeladlflpaaRegion
namespace Go.Proofs.Ytildoeladlflpaa
open Go.ChangeShapes Go.WideShapes Go.ChangeAt Go.RowKit
open Go.ChangeMaps (open_string shut_string)

set_option maxHeartbeats 1000000 in
theorem longer_any (A : Option Addr) (n c : Nat) (bs : List UInt8) (m : Nat) (w : World) (hn : n = bs.length) (hB : Bytes w A c bs) (hlen : bs.length + m ≤ 65536) :
    Calls Try.prog 11 #[.slice A n c, .int .i64 m] w fun e w' => ∃ v, e = .returned v ∧ IsBytes (bs ++ List.replicate m 0) v w' ∧ Below w.heap.size w w' := by
  subst hn
  go_enter Try.func11, Try.ntmps11
  go_wp2_with (first
    | (at_builtin; refine wpList_app_bytes rfl (.const (.slice none 0 0)) (.tmp 6) rfl w.heap.size none 0 [] 0 rfl rfl (OwnB.nil _ _) A c bs bs.length rfl rfl hB (by simp; omega) (Nat.le_refl _) ?_; intro A2 c2 W ho hgr hbW; have hz := hbW.size)
    | (at_builtin; refine wpList_app_zeros rfl (.tmp 8) (.tmp 9) rfl w.heap.size A2 c2 bs bs.length rfl rfl (by simpa using ho) m rfl (by omega) hz ?_; intro A3 c3 W3 ho3 hgr3 hbW3))
  go_ret
  exact ⟨_, rfl, ⟨A3, c3, by simp, ho3.bytes⟩, hbW.trans hbW3⟩

theorem mac_m (k : K4) (A : Option Addr) (c n : Nat) (bs : List UInt8) (w : World) (hn : n = bs.length) (hb : Bytes w A c bs) (hlen : bs.length ≤ 65536) :
    Calls Try.prog 9 #[.agg #[q32 k.k0, q32 k.k1, q32 k.k2, q32 k.k3], .slice A n c] w fun e w' => e = .returned (q64 (Mac k bs)) ∧ Below w.heap.size w w' := by
  subst hn
  exact mac_k k A c bs w hb hlen
theorem grows_law (k : K4) (a b l : List UInt8) (hab : a.length = b.length) (h8 : a.length % 8 = 0) (hl : l.length ≤ 8) :
    ((Mac k (a ++ l) == Mac k (b ++ l)) == (Mac k (a ++ List.replicate l.length 0) == Mac k (b ++ List.replicate l.length 0))) = true := by
  have h := mac_grows k a b l (List.replicate l.length 0) hab h8 hl (by simp)
  have h2 : (Mac k (a ++ l) == Mac k (b ++ l)) = (Mac k (a ++ List.replicate l.length 0) == Mac k (b ++ List.replicate l.length 0)) := by rw [Bool.eq_iff_iff]; simpa using h
  rw [h2]; simp
set_option maxHeartbeats 4000000 in
theorem macGrows_walk (k : K4) (v1 : Value) (a : List UInt8) (v2 : Value) (b : List UInt8) (v3 : Value) (l : List UInt8) (w : World) (hv1 : IsBytes a v1 w) (hv2 : IsBytes b v2 w) (hv3 : IsBytes l v3 w) :
    Calls Try.prog 5 #[.agg #[q32 k.k0, q32 k.k1, q32 k.k2, q32 k.k3], v1, v2, v3] w fun e w' => e = .returned (.bool true) ∧ Below w.heap.size w w' := by
  obtain ⟨A, c, rfl, hB⟩ := hv1
  obtain ⟨A', c', rfl, hB'⟩ := hv2
  obtain ⟨A'', c'', rfl, hB''⟩ := hv3
  have hl := hB.len_le
  have hl' := hB'.len_le
  have hl'' := hB''.len_le
  go_enter Try.func5, Try.ntmps5
  go_wp2_with (first
    | (go_at_call 8; (with_reducible refine (awake8_any _).mono ?_); rintro e w1 ⟨rfl, hb⟩; obtain ⟨hc, _⟩ := bcell hb; have hz : w.heap.size < w1.heap.size := by have := hb.size; simp at this; omega)
    | (at_builtin; refine wpList_app_bytes rfl (.const (.slice none 0 0)) (.tmp 39) rfl w1.heap.size none 0 [] 0 rfl rfl (OwnB.nil _ _) A c a a.length rfl rfl (hB.below (below_of_alloc hb)) (by simp; omega) (Nat.le_refl _) ?_; intro X1 cx1 W1 ho1 hgr1 hbW1; have hz1 := hbW1.size)
    | (at_builtin; refine wpList_app_bytes rfl (.tmp 41) (.tmp 42) rfl w1.heap.size X1 cx1 a a.length rfl rfl (by simpa using ho1) A'' c'' l l.length rfl rfl ((hB''.below (below_of_alloc hb)).below hbW1) (by omega) hz1 ?_; intro X2 cx2 W2 ho2 hgr2 hbW2; have hz2 := hbW2.size)
    | (at_builtin; refine wpList_app_bytes rfl (.const (.slice none 0 0)) (.tmp 44) rfl W2.heap.size none 0 [] 0 rfl rfl (OwnB.nil _ _) A' c' b b.length rfl rfl ((hB'.below (below_of_alloc hb)).below (hbW1.trans hbW2)) (by simp; omega) (Nat.le_refl _) ?_; intro X3 cx3 W3 ho3 hgr3 hbW3; have hz3 := hbW3.size)
    | (at_builtin; refine wpList_app_bytes rfl (.tmp 46) (.tmp 47) rfl W2.heap.size X3 cx3 b b.length rfl rfl (by simpa using ho3) A'' c'' l l.length rfl rfl (((hB''.below (below_of_alloc hb)).below (hbW1.trans hbW2)).below hbW3) (by omega) hz3 ?_; intro X4 cx4 W4 ho4 hgr4 hbW4))
  all_goals have hb0 := below_of_alloc hb
  case _ =>
    go_ret
    exact ⟨rfl, hb0⟩
  case _ =>
    have hb14 : Below w1.heap.size w1 W4 := (hbW1.trans hbW2).trans ((hbW3.trans hbW4).mono (by omega))
    have hX2 : Bytes W4 X2 cx2 (a ++ l) := ho2.bytes.below (hbW3.trans hbW4)
    have hX4 : Bytes W4 X4 cx4 (b ++ l) := ho4.bytes
    have hA : Bytes W4 A c a := (hB.below hb0).below hb14
    have hA' : Bytes W4 A' c' b := (hB'.below hb0).below hb14
    obtain ⟨hc4, _⟩ := bcell hb14
    have hz4 : w.heap.size < W4.heap.size := by have := hb14.size; omega
    have hL := grows_law k a b l (by omega) (by omega) (by omega)
    apply wp_region_lex
    case hFl =>
      intro u
      simp only [List.map, fill, Act.put, List.setIfInBounds_toArray, List.set_cons_zero, List.set_cons_succ, Nat.reduceAdd, Nat.zero_add]
      rfl
    case hm => kernel_rfl
    case hB => kernel_rfl
    case hap => kernel_rfl
    iterate 11 (
    apply Lex.is
    · (intro u w' hk hd
       obtain ⟨hcR, _⟩ := bcell hk
       simp [Waited, Region.binds, Is] at hd
       refine looked_want (by first | rfl | simp [Region.wanted, yielded, hd]) ?_
       intro K hK
       go_wp2_with (first | (go_at_call 9; (with_reducible refine (mac_m k X2 cx2 (a.length + l.length) (a ++ l) _ (by simp) (hX2.below hk) (by simp; omega)).mono ?_); rintro e w2 ⟨rfl, hb2⟩) | (go_at_call 9; (with_reducible refine (mac_m k X4 cx4 (b.length + l.length) (b ++ l) _ (by simp) (hX4.below hk) (by simp; omega)).mono ?_); rintro e w2 ⟨rfl, hb2⟩))
       try simp only [hd] at hK
       refine hK _ _ ?_ rfl
       first | exact Below.refl _ _ | exact hb2))
    refine Lex.word (IsBytes (a ++ List.replicate l.length 0)) (fun _ _ _ h hb => h.grow hb) ?_ ?_
    · intro u w' hk hd
      simp [Waited, Region.binds, Is] at hd
      refine looked_want (by simp [Region.wanted]) ?_
      intro K hK
      go_wp2_with (go_at_call 11; (with_reducible refine (longer_any A a.length c a l.length _ rfl (hA.below hk) (by omega)).mono ?_); rintro e w2 ⟨v, rfl, hv, hb2⟩)
      try simp only [hd] at hK
      exact hK _ _ hb2 hv
    apply Lex.is
    · intro u w' hk hd
      simp [Waited, Region.binds, Is] at hd
      obtain ⟨hd1, D, cD, hd2, hDB⟩ := hd
      rw [List.length_append, List.length_replicate] at hd2
      refine looked_want (by simp [Region.wanted]) ?_
      intro K hK
      go_wp2_with (go_at_call 9; (with_reducible refine (mac_m k D cD (a.length + l.length) (a ++ List.replicate l.length 0) _ (by simp) hDB (by simp; omega)).mono ?_); rintro e w2 ⟨rfl, hb2⟩)
      simp only [hd1, hd2] at hK
      exact hK _ _ hb2 rfl

    iterate 4 (
    apply Lex.is
    · (intro u w' hk hd
       obtain ⟨hcR, _⟩ := bcell hk
       simp [Waited, Region.binds, Is] at hd
       refine looked_want (by first | rfl | simp [Region.wanted, yielded, hd]) ?_
       intro K hK
       go_wp2_with (first | (go_at_call 9; (with_reducible refine (mac_m k X2 cx2 (a.length + l.length) (a ++ l) _ (by simp) (hX2.below hk) (by simp; omega)).mono ?_); rintro e w2 ⟨rfl, hb2⟩) | (go_at_call 9; (with_reducible refine (mac_m k X4 cx4 (b.length + l.length) (b ++ l) _ (by simp) (hX4.below hk) (by simp; omega)).mono ?_); rintro e w2 ⟨rfl, hb2⟩))
       try simp only [hd] at hK
       refine hK _ _ ?_ rfl
       first | exact Below.refl _ _ | exact hb2))
    refine Lex.word (IsBytes (b ++ List.replicate l.length 0)) (fun _ _ _ h hb => h.grow hb) ?_ ?_
    · intro u w' hk hd
      simp [Waited, Region.binds, Is] at hd
      refine looked_want (by simp [Region.wanted]) ?_
      intro K hK
      go_wp2_with (go_at_call 11; (with_reducible refine (longer_any A' b.length c' b l.length _ rfl (hA'.below hk) (by omega)).mono ?_); rintro e w2 ⟨v, rfl, hv, hb2⟩)
      try simp only [hd] at hK
      exact hK _ _ hb2 hv
    apply Lex.is
    · intro u w' hk hd
      simp [Waited, Region.binds, Is] at hd
      obtain ⟨hd1, D, cD, hd2, hDB⟩ := hd
      rw [List.length_append, List.length_replicate] at hd2
      refine looked_want (by simp [Region.wanted]) ?_
      intro K hK
      go_wp2_with (go_at_call 9; (with_reducible refine (mac_m k D cD (b.length + l.length) (b ++ List.replicate l.length 0) _ (by simp) hDB (by simp; omega)).mono ?_); rintro e w2 ⟨rfl, hb2⟩)
      simp only [hd1, hd2] at hK
      exact hK _ _ hb2 rfl

    apply Lex.is
    · intro u w' hk hd
      simp [Waited, Region.binds, Is] at hd
      refine looked_want (by simp [Region.wanted]) ?_
      intro K hK
      go_wp2_with fail
      try simp only [hd] at hK
      exact hK _ _ (Below.refl _ _) rfl
    refine Lex.word (Is (.bool true)) (grows_is _) ?_ ?_
    · intro u w' hk hd
      simp [Waited, Region.binds, Is] at hd
      refine looked_want (by simp [Region.wanted]) ?_
      intro K hK
      go_wp2_with fail
      try simp only [hd] at hK
      refine hK _ _ (Below.refl _ _) ?_
      first | rfl | exact congrArg Value.bool hL
    apply Lex.is
    · intro u w' hk hd
      simp [Waited, Region.binds, Is] at hd
      refine looked_want (by simp [Region.wanted]) ?_
      intro K hK
      go_wp2_with fail
      try simp only [hd] at hK
      exact hK _ _ (Below.refl _ _) rfl
    apply Lex.nil
    intro u w' hk hd
    simp only [List.nil_append, List.cons_append] at hd
    have h21 : u 21 = .bool true := hd 21 (Is (.bool true)) (by simp only [List.getElem?_cons_succ, List.getElem?_cons_zero])
    clear hd
    go_wp2_with fail
    simp only [h21]
    go_ret
    exact ⟨rfl, hb0.trans ((hb14.trans (hk.mono hb14.size)).mono (by omega))⟩
  all_goals
    go_ret
    exact ⟨rfl, hb0⟩

set_option maxRecDepth 100000 in
theorem macGrows_lifted (os : Os) (started : os.Started) (H : Type) (enc : TypeId × Value → H) :
    ReturnsInHanded {} Try.checked os 5 .any (Rows.macGrowsSpec.pre6 enc Try.prog Try.f5 Rows.macGrowsRow.domain false) (Rows.macGrowsSpec.post enc Try.prog Try.f5 false true false false) := by
  refine returnsInHanded_of_change (C := Try.checked) own started (by kernel_rfl) Try.func5
    (ChangeSpec.witness6 (enc := enc) (C := Try.checked) false ⟨#[], #[.agg #[.int .u32 0, .int .u32 0, .int .u32 0, .int .u32 0], .slice none 0 0, .slice none 0 0, .slice none 0 0], []⟩ 8 (by kernel_rfl) (by kernel_rfl) (by kernel_rfl) (by kernel_rfl)) ?_
  intro W base args ds gs before hval0 hW hcnd _
  have hval : ∀ (j : Nat) t v, Try.f5.params[j]? = some t → args[j]? = some v → Value.okWide Try.prog W .any base t v := hval0
  have hW' := hW
  obtain ⟨p, q, hA0, hV, rfl, hfz, hnd⟩ := hW
  have hA : DataW.TrodAll enc Try.prog W 0 (fun _ => true) true Try.f5.params.toList args.toList ds p := hA0
  rw [Try.params5] at hA hval
  obtain ⟨v0, vs0, d0, ds0, p0, q0, hargs, rfl, rfl, h0, r0⟩ := trodAll_cons hA
  obtain ⟨v1, vs1, d1, ds1, p1, q1, rfl, rfl, rfl, h1, r1⟩ := trodAll_cons r0
  obtain ⟨v2, vs2, d2, ds2, p2, q2, rfl, rfl, rfl, h2, r2⟩ := trodAll_cons r1
  obtain ⟨v3, vs3, d3, ds3, p3, q3, rfl, rfl, rfl, h3, r3⟩ := trodAll_cons r2
  obtain ⟨rfl, rfl, rfl⟩ := trodAll_nil r3
  obtain rfl : args = #[v0, v1, v2, v3] := by cases args; simp_all
  obtain ⟨rfl, rfl⟩ := trodVars_none hV
  have k0 := h0
  have lt0 : ∀ x ∈ p0, x.block < W.heap.size := by obtain ⟨m, hm⟩ := k0; exact DataW.trod_lt m _ _ _ hm
  have k1 := h1
  have lt1 : ∀ x ∈ p1, x.block < W.heap.size := by obtain ⟨m, hm⟩ := k1; exact DataW.trod_lt m _ _ _ hm
  have k2 := h2
  have lt2 : ∀ x ∈ p2, x.block < W.heap.size := by obtain ⟨m, hm⟩ := k2; exact DataW.trod_lt m _ _ _ hm
  have k3 := h3
  have lt3 : ∀ x ∈ p3, x.block < W.heap.size := by obtain ⟨m, hm⟩ := k3; exact DataW.trod_lt m _ _ _ hm
  obtain ⟨a0, rfl⟩ := open_key (hval 0 24 v0 rfl rfl) h0
  obtain ⟨s1, b1⟩ := open_bytes (hval 1 25 v1 rfl rfl) h1
  obtain ⟨s2, b2⟩ := open_bytes (hval 2 25 v2 rfl rfl) h2
  obtain ⟨s3, b3⟩ := open_bytes (hval 3 25 v3 rfl rfl) h3
  clear hA0 hval0
  refine (macGrows_walk a0 v1 s1 v2 s2 v3 s3 W b1 b2 b3).mono fun e W' ⟨he, bel⟩ => ?_
  subst he
  exact ⟨_, rfl, _, _, _, [], _, [], hW', trodAll_mk1 (shut_bool Try.underlying4 _), (trodAll_cons_mk (Below.trod laidOut (by kernel_rfl) (of_decide_eq_true (by kernel_rfl)) k0 bel lt0) (trodAll_cons_mk (Below.trod laidOut (by kernel_rfl) (of_decide_eq_true (by kernel_rfl)) k1 bel lt1) (trodAll_cons_mk (Below.trod laidOut (by kernel_rfl) (of_decide_eq_true (by kernel_rfl)) k2 bel lt2) (trodAll_cons_mk (Below.trod laidOut (by kernel_rfl) (of_decide_eq_true (by kernel_rfl)) k3 bel lt3) trodAll_mk0)))), rfl, bel.frame _, fun h => by cases h⟩

theorem macGrows_over : Rows.macGrowsRow.holds Try.pinned (OpenSpec.ofChange Rows.macGrowsSpec) :=
  OpenClaim.holds_of_wide 5 Try.f5 rfl rfl rfl rfl rfl rfl rfl ⟨rfl, rfl, rfl, rfl, rfl⟩ rfl rfl rfl rfl rfl (by kernel_rfl) Try.func5 (by kernel_rfl)
    (of_decide_eq_true (by kernel_rfl)) (by unfold Func.isWrapper; rw [if_neg (of_decide_eq_false (by kernel_rfl))]; exact ⟨rfl, rfl⟩)
    (fun os started H enc _ => macGrows_lifted os started H enc)

/-- THE STATEMENT. -/
theorem macGrows_holds : Rows.MacGrowsSaid := macGrows_over
end Go.Proofs.Ytildoeladlflpaa
