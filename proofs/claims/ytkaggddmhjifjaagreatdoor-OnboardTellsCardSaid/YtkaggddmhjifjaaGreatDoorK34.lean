/- Texts in one: DocMay17. -/
import Derived.Test.YtkaggddmhjifjaaGreatDoorK33
import Derived.Test.YtkaggddmhjifjaaGreatDoorK30
set_option linter.unusedSimpArgs false
set_option linter.unusedVariables false
namespace Go.Proofs.YtkaggddmhjifjaaGreatDoor
open Go.RowKit Go.Shelf
theorem Own.less2 {w W : World} {x y z : Bk} (h : Own w W [x, y, z]) (hxy : x.1 ≠ y.1) : Own w W [x, y] := ⟨h.below, fun a ha => h.blk a (by simp at ha; rcases ha with rfl | rfl <;> simp), by simp [hxy]⟩
theorem last_bound : ∀ (l : List Sc) (last : Int), sectsD last l = true → ∀ s ∈ l, last < s.to_ ∧ s.to_ ≤ 100000000
 | [], _, _, s, hs => by cases hs
 | x :: l, last, h, s, hs => by
  unfold sectsD at h
  simp only [Bool.and_eq_true, decide_eq_true_eq] at h
  rcases List.mem_cons.1 hs with rfl | hs
  ·
   exact ⟨h.1.1.1.1, h.1.1.1.2⟩
  ·
   have := last_bound l _ h.2 s hs
   omega
theorem lastP_bound {m : Ma} (h : sectsD 0 m.sects = true) : 0 ≤ lastP m ∧ lastP m ≤ 100000000 := by
 unfold lastP
 cases hl : m.sects.getLast? with
 | none => simp
 | some s =>
  have := last_bound m.sects 0 h s (List.mem_of_getLast? hl)
  simp only
  omega
set_option maxRecDepth 8000 in
set_option maxHeartbeats 32000000 in
theorem rmay17_m {w : World} {t : Tp} {m : TpM} (h : TpIs w t m) (ma : Ma) (v : MaM) (hm : MaIs w ma v) : Calls Tryz.prog 62 #[.agg m.cells, .agg (maC ma v)] w fun e w' => e = .returned (.bool (mayP t ma)) ∧ Below w.heap.size w w' := by
 have hO : Own w _ [_, _] := Own.start2 w 27 42 m.cells (maC ma v)
 have hcl := hO.b0.cell
 have hcx := hO.b1.cell
 have hpl := fun W (hW : Below w.heap.size w W) => rplace_m (h.below hW) ma v
 have hck := fun W (hW : Below w.heap.size w W) => rcheck_m (h.below hW)
 have htw := fun W (hW : Below w.heap.size w W) => rtwice_k v.A1 v.n1 v.c1 ma.path W (hm.path.below hW) hm.e1 hm.l1
 have hle := fun W (hW : Below w.heap.size w W) => rlen_m (h.below hW) v.A1 v.n1 v.c1 ma.path (hm.path.below hW) hm.e1 hm.l1
 have hla := fun W (hW : Below w.heap.size w W) => rlast_m ma v W (hm.below hW)
 have hbe := fun W (hW : Below w.heap.size w W) => rbehind_m (h.below hW) ma v (hm.below hW)
 have hbb : 0 ≤ behindD t ma ∧ behindD t ma ≤ 100000000 := on_bound _ _ _
 have hlb := @lastP_bound ma
 have hM := mayP_doc t ma
 have hlen : checkT t = 0 → lenE t ma.path = 0 → 0 ≤ lenT t ma.path ∧ lenT t ma.path ≤ 100000000 := fun h1 h2 => by
  obtain ⟨k1, k2, k3, k4⟩ := len_ok h2
  have := lens_nonneg (check_edges h1) ma.path k3
  rw [len_is (check_edges h1) h2]
  omega
 have hen : ma.sects.length ≠ 0 → endP ma = wrap64 (lastP ma + ma.gap) := fun h0 => by unfold endP; rw [if_neg h0]
 rw [hm.e2] at hM hen
 rw [hm.e1] at hM
 have hl1 := hm.l1
 have hl2 := hm.l2
 obtain ⟨bo, hbo⟩ : ∃ bo, bo = balT t ma.ref := ⟨_, rfl⟩
 rw [← hbo] at hM hpl
 clear hbo
 generalize mayP t ma = mp at *
 generalize checkT t = ck at *
 generalize behindD t ma = bd at *
 generalize lenT t ma.path = lt at *
 generalize lenE t ma.path = le at *
 generalize twiceP [] ma.path = tw at *
 generalize lastP ma = lp at *
 generalize endP ma = ep at *
 obtain ⟨m5, hm5⟩ : ∃ b, b = ma.rev := ⟨_, rfl⟩
 obtain ⟨gp, hgp⟩ : ∃ n, n = ma.gap := ⟨_, rfl⟩
 simp only [← hgp, ← hm5] at hM hen hpl
 generalize hpp : placeB (bo.getD ⟨0, 0, 0⟩) m5 = pp at *
 have hpp1 : pp.edge = (bo.getD ⟨0, 0, 0⟩).edge := by rw [← hpp]; rfl
 have hpp3 : m5 = pp.rev := by rw [← hpp]; rfl
 obtain ⟨pe, pa, pr⟩ := pp
 simp only at hpp1 hpp3
 subst hpp3
 have HPE := Lib.hid hpp1
 have HM := Lib.hid hM
 clear hM hpp hpp1
 unfold maC at *
 simp only [← hgp, ← hm5] at hpl hla hbe hO hcx ⊢
 unfold TpM.cells at *
 simp only [psV] at hpl
 have HGP := Lib.hid hgp
 have HM5 := Lib.hid hm5
 clear hgp hm5
 by_cases h1 : ck = 0
 ·
  subst h1
  cases hib : bo.isSome with
  | false =>
   rw [hib] at hpl
   have HIB := Lib.hid hib
   clear hib
   obtain rfl : mp = false := Bool.eq_false_iff.2 fun hh => by
    obtain ⟨h1, h2, h3, h4, h5, h6, h7, _⟩ := HM.out.1 hh
    obtain ⟨b, hb, _⟩ := h2; have := HIB.out; rw [hb] at this; cases this
   go_enter Tryz.func62, Tryz.ntmps62
   go_wp2_with (
    (first
     |(go_at_call 112; (with_reducible refine (hpl _ hO.below).mono ?_); rintro e w1 ⟨rfl, hb1⟩; replace hO := Own.new2 (hO.grow hb1) 38 #[.int .i64 pe, .int .i64 pa, .bool m5]; have hcl1 := hO.b0.cell; have hcx1 := hO.b1.cell; have hcp1 := hO.b2.cell)
     |(go_at_call 111; (with_reducible refine (hck _ hO.below).mono ?_); rintro e w2 ⟨rfl, hb2⟩; replace hO := hO.grow hb2; have hcl2 := hO.b0.cell; have hcx2 := hO.b1.cell; have hcp2 := hO.b2.cell))
    )
   go_ret
   exact ⟨rfl, hO.below⟩
  | true =>
   rw [hib] at hpl
   obtain ⟨b, rfl⟩ := Option.isSome_iff_exists.1 hib
   have hpe := HPE.out
   simp only [Option.getD_some] at hpe
   have HPB := Lib.hid hpe
   clear hib HPE hpe
   by_cases g1 : v.n1 = 0
   ·
    have f1 : ((v.n1 : Int) == 0) = true := by simpa using g1
    replace g1 := Lib.hid g1
    obtain rfl : mp = false := Bool.eq_false_iff.2 fun hh => by
     obtain ⟨h1, h2, h3, h4, h5, h6, h7, _⟩ := HM.out.1 hh
     obtain ⟨b, hb, hc⟩ := h2; have := hm.e1; rw [g1.out] at this; rw [List.length_eq_zero_iff.1 this] at hc; cases hc
    go_enter Tryz.func62, Tryz.ntmps62
    go_wp2_with (
     (first
      |(go_at_call 112; (with_reducible refine (hpl _ hO.below).mono ?_); rintro e w1 ⟨rfl, hb1⟩; replace hO := Own.new2 (hO.grow hb1) 38 #[.int .i64 pe, .int .i64 pa, .bool m5]; have hcl1 := hO.b0.cell; have hcx1 := hO.b1.cell; have hcp1 := hO.b2.cell)
      |(go_at_call 111; (with_reducible refine (hck _ hO.below).mono ?_); rintro e w2 ⟨rfl, hb2⟩; replace hO := hO.grow hb2; have hcl2 := hO.b0.cell; have hcx2 := hO.b1.cell; have hcp2 := hO.b2.cell))
     )
    go_ret
    exact ⟨rfl, hO.below⟩
   have f1 : ((v.n1 : Int) == 0) = false := by simpa using g1
   by_cases g2 : 24 < v.n1
   ·
    have f2 : decide (24 < (v.n1 : Int)) = true := by simp; omega
    obtain rfl : mp = false := Bool.eq_false_iff.2 fun hh => by
     obtain ⟨h1, h2, h3, h4, h5, h6, h7, _⟩ := HM.out.1 hh
     omega
    go_enter Tryz.func62, Tryz.ntmps62
    go_wp2_with (
     (first
      |(go_at_call 112; (with_reducible refine (hpl _ hO.below).mono ?_); rintro e w1 ⟨rfl, hb1⟩; replace hO := Own.new2 (hO.grow hb1) 38 #[.int .i64 pe, .int .i64 pa, .bool m5]; have hcl1 := hO.b0.cell; have hcx1 := hO.b1.cell; have hcp1 := hO.b2.cell)
      |(go_at_call 111; (with_reducible refine (hck _ hO.below).mono ?_); rintro e w2 ⟨rfl, hb2⟩; replace hO := hO.grow hb2; have hcl2 := hO.b0.cell; have hcx2 := hO.b1.cell; have hcp2 := hO.b2.cell))
     )
    go_ret
    exact ⟨rfl, hO.below⟩
   have f2 : decide (24 < (v.n1 : Int)) = false := by simp; omega
   by_cases g3 : v.n2 = 0
   ·
    have f3 : ((v.n2 : Int) == 0) = true := by simpa using g3
    replace g3 := Lib.hid g3
    obtain rfl : mp = false := Bool.eq_false_iff.2 fun hh => by
     obtain ⟨h1, h2, h3, h4, h5, h6, h7, _⟩ := HM.out.1 hh
     have := g3.out; omega
    go_enter Tryz.func62, Tryz.ntmps62
    go_wp2_with (
     (first
      |(go_at_call 112; (with_reducible refine (hpl _ hO.below).mono ?_); rintro e w1 ⟨rfl, hb1⟩; replace hO := Own.new2 (hO.grow hb1) 38 #[.int .i64 pe, .int .i64 pa, .bool m5]; have hcl1 := hO.b0.cell; have hcx1 := hO.b1.cell; have hcp1 := hO.b2.cell)
      |(go_at_call 111; (with_reducible refine (hck _ hO.below).mono ?_); rintro e w2 ⟨rfl, hb2⟩; replace hO := hO.grow hb2; have hcl2 := hO.b0.cell; have hcx2 := hO.b1.cell; have hcp2 := hO.b2.cell))
     )
    go_ret
    exact ⟨rfl, hO.below⟩
   have f3 : ((v.n2 : Int) == 0) = false := by simpa using g3
   by_cases g4 : 8 < v.n2
   ·
    have f4 : decide (8 < (v.n2 : Int)) = true := by simp; omega
    obtain rfl : mp = false := Bool.eq_false_iff.2 fun hh => by
     obtain ⟨h1, h2, h3, h4, h5, h6, h7, _⟩ := HM.out.1 hh
     omega
    go_enter Tryz.func62, Tryz.ntmps62
    go_wp2_with (
     (first
      |(go_at_call 112; (with_reducible refine (hpl _ hO.below).mono ?_); rintro e w1 ⟨rfl, hb1⟩; replace hO := Own.new2 (hO.grow hb1) 38 #[.int .i64 pe, .int .i64 pa, .bool m5]; have hcl1 := hO.b0.cell; have hcx1 := hO.b1.cell; have hcp1 := hO.b2.cell)
      |(go_at_call 111; (with_reducible refine (hck _ hO.below).mono ?_); rintro e w2 ⟨rfl, hb2⟩; replace hO := hO.grow hb2; have hcl2 := hO.b0.cell; have hcx2 := hO.b1.cell; have hcp2 := hO.b2.cell))
     )
    go_ret
    exact ⟨rfl, hO.below⟩
   have f4 : decide (8 < (v.n2 : Int)) = false := by simp; omega
   by_cases g5 : gp < 0
   ·
    have f5 : decide (gp < 0) = true := by simpa using g5
    obtain rfl : mp = false := Bool.eq_false_iff.2 fun hh => by
     obtain ⟨h1, h2, h3, h4, h5, h6, h7, _⟩ := HM.out.1 hh
     omega
    go_enter Tryz.func62, Tryz.ntmps62
    go_wp2_with (
     (first
      |(go_at_call 112; (with_reducible refine (hpl _ hO.below).mono ?_); rintro e w1 ⟨rfl, hb1⟩; replace hO := Own.new2 (hO.grow hb1) 38 #[.int .i64 pe, .int .i64 pa, .bool m5]; have hcl1 := hO.b0.cell; have hcx1 := hO.b1.cell; have hcp1 := hO.b2.cell)
      |(go_at_call 111; (with_reducible refine (hck _ hO.below).mono ?_); rintro e w2 ⟨rfl, hb2⟩; replace hO := hO.grow hb2; have hcl2 := hO.b0.cell; have hcx2 := hO.b1.cell; have hcp2 := hO.b2.cell))
     )
    go_ret
    exact ⟨rfl, hO.below⟩
   have f5 : decide (gp < 0) = false := by simpa using g5
   replace g5 := Int.not_lt.1 g5
   by_cases g6 : 100000000 < gp
   ·
    have f6 : decide (100000000 < gp) = true := by simpa using g6
    obtain rfl : mp = false := Bool.eq_false_iff.2 fun hh => by
     obtain ⟨h1, h2, h3, h4, h5, h6, h7, _⟩ := HM.out.1 hh
     omega
    go_enter Tryz.func62, Tryz.ntmps62
    go_wp2_with (
     (first
      |(go_at_call 112; (with_reducible refine (hpl _ hO.below).mono ?_); rintro e w1 ⟨rfl, hb1⟩; replace hO := Own.new2 (hO.grow hb1) 38 #[.int .i64 pe, .int .i64 pa, .bool m5]; have hcl1 := hO.b0.cell; have hcx1 := hO.b1.cell; have hcp1 := hO.b2.cell)
      |(go_at_call 111; (with_reducible refine (hck _ hO.below).mono ?_); rintro e w2 ⟨rfl, hb2⟩; replace hO := hO.grow hb2; have hcl2 := hO.b0.cell; have hcx2 := hO.b1.cell; have hcp2 := hO.b2.cell))
     )
    go_ret
    exact ⟨rfl, hO.below⟩
   have f6 : decide (100000000 < gp) = false := by simpa using g6
   replace g6 := Int.not_lt.1 g6
   obtain ⟨s0, hs0⟩ := get_some hm.e1 (show 0 < v.n1 by omega)
   obtain ⟨g, off, hA1, hg, a0, a1⟩ := hm.path.st hs0
   simp only [Nat.zero_mul, Nat.add_zero] at a0 a1
   have k0 := fun W (hW : Below w.heap.size w W) => (hW.cell (p := ⟨g, off, none⟩) hg).trans a0
   have k1 := fun W (hW : Below w.heap.size w W) => (hW.cell (p := ⟨g, off + 1, none⟩) hg).trans a1
   have hhd := head_get hs0
   obtain ⟨s1, s2⟩ := s0
   simp only at k0 k1
   have HHD := Lib.hid hhd
   have hn1 : 0 < v.n1 := by omega
   clear hs0 a0 a1 hhd g1
   simp only [hA1] at hpl hla hbe hle htw hO hcx ⊢
   have hfalse : (pe ≠ s1 ∨ m5 ≠ s2 ∨ tw = true ∨ le ≠ 0) → mp = false := fun hor => Bool.eq_false_iff.2 fun hh => by
    obtain ⟨_, ⟨b', hb1, hb2⟩, _, _, _, _, _, h7, h8, _⟩ := HM.out.1 hh
    rw [HHD.out] at hb2
    simp only [Option.some.injEq, St.mk.injEq] at hb1 hb2
    subst hb1
    have := HPB.out
    rcases hor with h | h | h | h
    ·
     exact h (by rw [this, hb2.1])
    ·
     exact h hb2.2.symm
    ·
     rw [h] at h7; cases h7
    ·
     exact h h8
   by_cases g0 : s1 = pe
   ·
    have e0 : (s1 != pe) = false := by simpa using g0
    replace g0 := Lib.hid g0
    by_cases g7 : s2 = m5
    ·
     have e1 : (s2 != m5) = false := by simpa using g7
     have e1b : (s2 == m5) = true := by simpa using g7
     replace g7 := Lib.hid g7
     cases tw with
     | true =>
      obtain rfl := hfalse (.inr (.inr (.inl rfl)))
      clear hfalse
      go_enter Tryz.func62, Tryz.ntmps62
      go_wp2_with (
       (first
        |(go_at_call 112; (with_reducible refine (hpl _ hO.below).mono ?_); rintro e w1 ⟨rfl, hb1⟩; replace hO := Own.new2 (hO.grow hb1) 38 #[.int .i64 pe, .int .i64 pa, .bool m5]; have hcl1 := hO.b0.cell; have hcx1 := hO.b1.cell; have hcp1 := hO.b2.cell)
        |(go_at_call 111; (with_reducible refine (hck _ hO.below).mono ?_); rintro e w2 ⟨rfl, hb2⟩; replace hO := hO.grow hb2; have hcl2 := hO.b0.cell; have hcx2 := hO.b1.cell; have hcp2 := hO.b2.cell))
       )
      clear hcl hcx
      apply wp_region_lex
      case hFl => intro u; simp only [List.map, fill, Act.put, List.setIfInBounds_toArray, List.set_cons_zero, List.set_cons_succ, Nat.reduceAdd, Nat.zero_add]; rfl
      case hm => kernel_rfl
      case hB => kernel_rfl
      case hap => kernel_rfl
      repeat (first | (apply Lex.is; · (intro u w' hk hd; refine looked_free rfl ?_; simp [Waited, Region.binds, Is] at hd; intro K hK; have hO2 := hO.grow hk; have hca := hO2.b1.cell; have hcb := hO2.b2.cell; have m0 := k0 _ hO2.below; have m1 := k1 _ hO2.below; go_wp2_with (fail); (try simp only [hd] at hK); refine hK _ _ ?_ rfl; first | exact Below.refl _ _ | exact hb3)) | (refine Lex.is (c := undef) ?_ ?_; · (intro u w' hk hd; simp [Waited, Region.binds, Is] at hd; refine looked_skip_g rfl rfl rfl ?_ rfl; simp only [hd]; first | rfl | decide)) | (apply Lex.is; · (intro u w' hk hd; simp [Waited, Region.binds, Is] at hd; refine looked_want_g rfl rfl rfl ?_ ?_; (· (simp only [hd]; first | rfl | decide)); intro K hK; have hO2 := hO.grow hk; have hca := hO2.b1.cell; have hcb := hO2.b2.cell; have m0 := k0 _ hO2.below; have m1 := k1 _ hO2.below; go_wp2_with (fail); (try simp only [hd] at hK); refine hK _ _ ?_ rfl; first | exact Below.refl _ _ | exact hb3)))
      apply Lex.nil
      intro u w' hk hd
      simp only [List.nil_append, List.cons_append] at hd
      have hlast := hd 17 _ rfl
      simp only [Is] at hlast
      clear hd
      simp only [hlast]
      clear hlast
      replace hO := hO.grow hk
      clear hk
      have hcl := hO.b0.cell
      have hcx := hO.b1.cell
      go_wp2_with (first
       |(go_at_call 113; (with_reducible refine (htw _ hO.below).mono ?_); rintro e w4 ⟨rfl, hb4⟩; replace hO := hO.grow hb4; have hcl4 := hO.b0.cell; have hcx4 := hO.b1.cell)
       |(go_at_call 114; (with_reducible refine (hle _ hO.below).mono ?_); rintro e w5 ⟨rfl, hb5⟩; replace hO := hO.grow hb5))
      go_ret
      exact ⟨rfl, hO.below⟩
     | false =>
      by_cases g8 : le = 0
      ·
       subst g8
       go_enter Tryz.func62, Tryz.ntmps62
       go_wp2_with (
        (first
         |(go_at_call 112; (with_reducible refine (hpl _ hO.below).mono ?_); rintro e w1 ⟨rfl, hb1⟩; replace hO := Own.new2 (hO.grow hb1) 38 #[.int .i64 pe, .int .i64 pa, .bool m5]; have hcl1 := hO.b0.cell; have hcx1 := hO.b1.cell; have hcp1 := hO.b2.cell)
         |(go_at_call 111; (with_reducible refine (hck _ hO.below).mono ?_); rintro e w2 ⟨rfl, hb2⟩; replace hO := hO.grow hb2; have hcl2 := hO.b0.cell; have hcx2 := hO.b1.cell; have hcp2 := hO.b2.cell))
        )
       clear hcl hcx
       apply wp_region_lex
       case hFl => intro u; simp only [List.map, fill, Act.put, List.setIfInBounds_toArray, List.set_cons_zero, List.set_cons_succ, Nat.reduceAdd, Nat.zero_add]; rfl
       case hm => kernel_rfl
       case hB => kernel_rfl
       case hap => kernel_rfl
       repeat (first | (apply Lex.is; · (intro u w' hk hd; refine looked_free rfl ?_; simp [Waited, Region.binds, Is] at hd; intro K hK; have hO2 := hO.grow hk; have hca := hO2.b1.cell; have hcb := hO2.b2.cell; have m0 := k0 _ hO2.below; have m1 := k1 _ hO2.below; go_wp2_with (fail); (try simp only [hd] at hK); refine hK _ _ ?_ rfl; first | exact Below.refl _ _ | exact hb3)) | (refine Lex.is (c := undef) ?_ ?_; · (intro u w' hk hd; simp [Waited, Region.binds, Is] at hd; refine looked_skip_g rfl rfl rfl ?_ rfl; simp only [hd]; first | rfl | decide)) | (apply Lex.is; · (intro u w' hk hd; simp [Waited, Region.binds, Is] at hd; refine looked_want_g rfl rfl rfl ?_ ?_; (· (simp only [hd]; first | rfl | decide)); intro K hK; have hO2 := hO.grow hk; have hca := hO2.b1.cell; have hcb := hO2.b2.cell; have m0 := k0 _ hO2.below; have m1 := k1 _ hO2.below; go_wp2_with (fail); (try simp only [hd] at hK); refine hK _ _ ?_ rfl; first | exact Below.refl _ _ | exact hb3)))
       apply Lex.nil
       intro u w' hk hd
       simp only [List.nil_append, List.cons_append] at hd
       have hlast := hd 17 _ rfl
       simp only [Is] at hlast
       clear hd
       simp only [hlast]
       clear hlast
       replace hO := hO.grow hk
       clear hk
       have hcl := hO.b0.cell
       have hcx := hO.b1.cell
       go_wp2_with (first
        |(go_at_call 113; (with_reducible refine (htw _ hO.below).mono ?_); rintro e w4 ⟨rfl, hb4⟩; replace hO := hO.grow hb4; have hcl4 := hO.b0.cell; have hcx4 := hO.b1.cell)
        |(go_at_call 114; (with_reducible refine (hle _ hO.below).mono ?_); rintro e w5 ⟨rfl, hb5⟩; replace hO := hO.grow hb5; have hcl5 := hO.b0.cell; have hcx5 := hO.b1.cell))
       clear hcl hcx hcl4 hcx4 hcl5 hcx5 hcl1 hcx1 hcp1 hcl2 hcx2 hcp2 f1 f2 f3 f4 f5 f6 e0 e1 e1b hpl hck htw hle hfalse hb1 hb2 hb4 hb5
       have hlen' := hlen (by first | rfl | trivial) (by first | rfl | trivial)
       have hen' := Lib.hid (hen g3)
       clear hlen hen
       --< LOOP
       have hlp := fun hs => hlb hs
       have hsd : Hid (sectsD 0 ma.sects = false → mp = false) := Lib.hid fun hs => Bool.eq_false_iff.2 fun hh => by
        obtain ⟨_, _, _, _, _, _, _, _, _, h9, _⟩ := HM.out.1 hh
        rw [hs] at h9
        cases h9
       have hend : Hid (sectsD 0 ma.sects = true → mp = decide (lp + gp ≤ lt - bd)) := Lib.hid fun hs => by
        rw [Bool.eq_iff_iff, HM.out, decide_eq_true_eq]
        constructor
        ·
         rintro ⟨_, _, _, _, _, _, _, _, _, _, h10⟩
         exact h10
        ·
         intro h10
         have hb2 := HHD.out
         have hpb := HPB.out
         exact ⟨by first | rfl | trivial, ⟨b, rfl, by rw [hb2, g0.out, g7.out, hpb]⟩, by omega, by omega, by omega, by omega, by omega, by first | rfl | trivial, by first | rfl | trivial, hs, h10⟩
       clear HM HHD HPB hlb k0 k1 g0 g7 hn1
       have hHM := HM5
       replace hlen' := Lib.hid hlen'
       replace hbb := Lib.hid hbb
       replace hlp := Lib.hid hlp
       replace g2 := Lib.hid g2
       replace g3 := Lib.hid g3
       replace g4 := Lib.hid g4
       replace g5 := Lib.hid g5
       replace g6 := Lib.hid g6
       go_loopw [10] (fun x wr => ∃ (k : Nat) (la : Int), x = .int .i64 k ∧ k ≤ v.n2 ∧ 0 ≤ la ∧ Hid (k = 0 → la = 0) ∧ Hid (∀ s : Sc, 0 < k → ma.sects[k - 1]? = some s → s.to_ = la) ∧ Hid (sectsD 0 ma.sects = sectsD la (ma.sects.drop k)) ∧ Own w wr [(w.heap.size, 27, #[.slice m.A1 m.n1 m.c1, .slice m.A2 m.n2 m.c2, .slice m.A3 m.n3 m.c3, .slice m.A4 m.n4 m.c4]), (w.heap.size + 1, 42, #[.int .i64 ma.ref, .bool m5, .slice (some ⟨g, off, none⟩) v.n1 v.c1, .slice v.A2 v.n2 v.c2, .int .i64 gp])]) (fun x _ => v.n2 - (intOf x).toNat)
       case atStart => exact ⟨0, 0, rfl, Nat.zero_le _, Int.le_refl _, Lib.hid fun _ => rfl, Lib.hid fun _ h => absurd h (Nat.lt_irrefl _), Lib.hid (by simp), hO.less2 (by simp)⟩
       case round =>
        clear hO
        obtain ⟨k, la, rfl, hk, hla0, hk0, hkp, hap, hO⟩ := hrel
        replace hla0 := Lib.hid hla0
        have hcl := hO.b0.cell
        have hcx := hO.b1.cell
        by_cases hlt : k < v.n2
        ·
         have hdc : decide ((k : Int) < (v.n2 : Int)) = true := by simpa using hlt
         --< RA
         obtain ⟨s, hs⟩ := get_some hm.e2 hlt
         obtain ⟨g2, off2, hA2, hg2, a0, a1⟩ := hm.sects.sc hs
         have kk0 := (hO.below.cell (p := ⟨g2, off2 + k * 2, none⟩) hg2).trans a0
         have kk1 := (hO.below.cell (p := ⟨g2, off2 + k * 2 + 1, none⟩) hg2).trans a1
         have hst := sectsD_drop (x := la) hs
         rw [← hap.out] at hst
         have HS := Lib.hid hs
         obtain ⟨s1, s2⟩ := s
         simp only at kk0 kk1 hst
         have hmf : ¬ (la < s1 ∧ s1 ≤ 100000000 ∧ 1 ≤ s2 ∧ s2 ≤ 1000) → mp = false := fun hn => hsd.out (by
          rw [hst, Bool.and_eq_false_iff]
          left
          rw [← Bool.not_eq_true]
          simp only [Bool.and_eq_true, decide_eq_true_eq]
          omega)
         have hgood : la < s1 ∧ s1 ≤ 100000000 ∧ 1 ≤ s2 ∧ s2 ≤ 1000 → sectsD 0 ma.sects = sectsD s1 (ma.sects.drop (k + 1)) := fun hg => by
          rw [hst]
          simp [hg]
         have HG := Lib.hid hgood
         have HF := Lib.hid hmf
         have hO1 := Own.new2 hO 122 #[.int .i64 s1, .int .i64 s2]
         clear hs a0 a1 hst hmf hgood hap
         simp only [hA2] at hO1 hO hcl hcx hla hbe ⊢
         go_wp2_with fail
         replace hO := hO1
         clear hO1 hcl hcx kk0 kk1 hdc
         generalize wr.heap.size = sb at hO ⊢
         by_cases c1 : s1 < 1
         ·
          have d1 : decide (s1 < 1) = true := by simpa using c1
          obtain rfl := HF.out (by have := hla0.out; omega)
          clear c1
          clear HF HG hsd hend hlp
          try clear hk0 hkp
          apply wp_region_lex
          case hFl => intro u; simp only [List.map, fill, Act.put, List.setIfInBounds_toArray, List.set_cons_zero, List.set_cons_succ, Nat.reduceAdd, Nat.zero_add]; rfl
          case hm => kernel_rfl
          case hB => kernel_rfl
          case hap => kernel_rfl
          repeat (first | (apply Lex.is; · (intro u w' hk hd; refine looked_free rfl ?_; simp [Waited, Region.binds, Is] at hd; intro K hK; have hO2 := hO.grow hk; have hca := hO2.b0.cell; have hcx := hO2.b1.cell; have hcs := hO2.b2.cell; go_wp2_with (fail); (try simp only [hd] at hK); refine hK _ _ ?_ rfl; first | exact Below.refl _ _ | exact hb3)) | (refine Lex.is (c := undef) ?_ ?_; · (intro u w' hk hd; simp [Waited, Region.binds, Is] at hd; refine looked_skip_g rfl rfl rfl ?_ rfl; simp only [hd]; first | rfl | decide)) | (apply Lex.is; · (intro u w' hk hd; simp [Waited, Region.binds, Is] at hd; refine looked_want_g rfl rfl rfl ?_ ?_; (· (simp only [hd]; first | rfl | decide)); intro K hK; have hO2 := hO.grow hk; have hca := hO2.b0.cell; have hcx := hO2.b1.cell; have hcs := hO2.b2.cell; go_wp2_with (fail); (try simp only [hd] at hK); refine hK _ _ ?_ rfl; first | exact Below.refl _ _ | exact hb3)))
          apply Lex.nil
          intro u w' hk hd
          simp only [List.nil_append, List.cons_append] at hd
          have hlast := hd 33 _ rfl
          simp only [Is] at hlast
          clear hd
          simp only [hlast]
          clear hlast
          have hO3 := hO.grow hk
          go_wp2_with fail
          go_ret
          exact ⟨rfl, hO3.below⟩
         have d1 : decide (s1 < 1) = false := by simpa using c1
         replace c1 := Int.not_lt.1 c1
         by_cases c2 : 100000000 < s1
         ·
          have d2 : decide (100000000 < s1) = true := by simpa using c2
          obtain rfl := HF.out (by have := hla0.out; omega)
          clear c2
          clear HF HG hsd hend hlp
          try clear hk0 hkp
          apply wp_region_lex
          case hFl => intro u; simp only [List.map, fill, Act.put, List.setIfInBounds_toArray, List.set_cons_zero, List.set_cons_succ, Nat.reduceAdd, Nat.zero_add]; rfl
          case hm => kernel_rfl
          case hB => kernel_rfl
          case hap => kernel_rfl
          repeat (first | (apply Lex.is; · (intro u w' hk hd; refine looked_free rfl ?_; simp [Waited, Region.binds, Is] at hd; intro K hK; have hO2 := hO.grow hk; have hca := hO2.b0.cell; have hcx := hO2.b1.cell; have hcs := hO2.b2.cell; go_wp2_with (fail); (try simp only [hd] at hK); refine hK _ _ ?_ rfl; first | exact Below.refl _ _ | exact hb3)) | (refine Lex.is (c := undef) ?_ ?_; · (intro u w' hk hd; simp [Waited, Region.binds, Is] at hd; refine looked_skip_g rfl rfl rfl ?_ rfl; simp only [hd]; first | rfl | decide)) | (apply Lex.is; · (intro u w' hk hd; simp [Waited, Region.binds, Is] at hd; refine looked_want_g rfl rfl rfl ?_ ?_; (· (simp only [hd]; first | rfl | decide)); intro K hK; have hO2 := hO.grow hk; have hca := hO2.b0.cell; have hcx := hO2.b1.cell; have hcs := hO2.b2.cell; go_wp2_with (fail); (try simp only [hd] at hK); refine hK _ _ ?_ rfl; first | exact Below.refl _ _ | exact hb3)))
          apply Lex.nil
          intro u w' hk hd
          simp only [List.nil_append, List.cons_append] at hd
          have hlast := hd 33 _ rfl
          simp only [Is] at hlast
          clear hd
          simp only [hlast]
          clear hlast
          have hO3 := hO.grow hk
          go_wp2_with fail
          go_ret
          exact ⟨rfl, hO3.below⟩
         have d2 : decide (100000000 < s1) = false := by simpa using c2
         replace c2 := Int.not_lt.1 c2
         by_cases c3 : s2 < 1
         ·
          have d3 : decide (s2 < 1) = true := by simpa using c3
          obtain rfl := HF.out (by have := hla0.out; omega)
          clear c3
          clear HF HG hsd hend hlp
          try clear hk0 hkp
          apply wp_region_lex
          case hFl => intro u; simp only [List.map, fill, Act.put, List.setIfInBounds_toArray, List.set_cons_zero, List.set_cons_succ, Nat.reduceAdd, Nat.zero_add]; rfl
          case hm => kernel_rfl
          case hB => kernel_rfl
          case hap => kernel_rfl
          repeat (first | (apply Lex.is; · (intro u w' hk hd; refine looked_free rfl ?_; simp [Waited, Region.binds, Is] at hd; intro K hK; have hO2 := hO.grow hk; have hca := hO2.b0.cell; have hcx := hO2.b1.cell; have hcs := hO2.b2.cell; go_wp2_with (fail); (try simp only [hd] at hK); refine hK _ _ ?_ rfl; first | exact Below.refl _ _ | exact hb3)) | (refine Lex.is (c := undef) ?_ ?_; · (intro u w' hk hd; simp [Waited, Region.binds, Is] at hd; refine looked_skip_g rfl rfl rfl ?_ rfl; simp only [hd]; first | rfl | decide)) | (apply Lex.is; · (intro u w' hk hd; simp [Waited, Region.binds, Is] at hd; refine looked_want_g rfl rfl rfl ?_ ?_; (· (simp only [hd]; first | rfl | decide)); intro K hK; have hO2 := hO.grow hk; have hca := hO2.b0.cell; have hcx := hO2.b1.cell; have hcs := hO2.b2.cell; go_wp2_with (fail); (try simp only [hd] at hK); refine hK _ _ ?_ rfl; first | exact Below.refl _ _ | exact hb3)))
          apply Lex.nil
          intro u w' hk hd
          simp only [List.nil_append, List.cons_append] at hd
          have hlast := hd 33 _ rfl
          simp only [Is] at hlast
          clear hd
          simp only [hlast]
          clear hlast
          have hO3 := hO.grow hk
          go_wp2_with fail
          go_ret
          exact ⟨rfl, hO3.below⟩
         have d3 : decide (s2 < 1) = false := by simpa using c3
         replace c3 := Int.not_lt.1 c3
         by_cases c4 : 1000 < s2
         ·
          have d4 : decide (1000 < s2) = true := by simpa using c4
          obtain rfl := HF.out (by have := hla0.out; omega)
          clear c4
          clear HF HG hsd hend hlp
          try clear hk0 hkp
          apply wp_region_lex
          case hFl => intro u; simp only [List.map, fill, Act.put, List.setIfInBounds_toArray, List.set_cons_zero, List.set_cons_succ, Nat.reduceAdd, Nat.zero_add]; rfl
          case hm => kernel_rfl
          case hB => kernel_rfl
          case hap => kernel_rfl
          repeat (first | (apply Lex.is; · (intro u w' hk hd; refine looked_free rfl ?_; simp [Waited, Region.binds, Is] at hd; intro K hK; have hO2 := hO.grow hk; have hca := hO2.b0.cell; have hcx := hO2.b1.cell; have hcs := hO2.b2.cell; go_wp2_with (fail); (try simp only [hd] at hK); refine hK _ _ ?_ rfl; first | exact Below.refl _ _ | exact hb3)) | (refine Lex.is (c := undef) ?_ ?_; · (intro u w' hk hd; simp [Waited, Region.binds, Is] at hd; refine looked_skip_g rfl rfl rfl ?_ rfl; simp only [hd]; first | rfl | decide)) | (apply Lex.is; · (intro u w' hk hd; simp [Waited, Region.binds, Is] at hd; refine looked_want_g rfl rfl rfl ?_ ?_; (· (simp only [hd]; first | rfl | decide)); intro K hK; have hO2 := hO.grow hk; have hca := hO2.b0.cell; have hcx := hO2.b1.cell; have hcs := hO2.b2.cell; go_wp2_with (fail); (try simp only [hd] at hK); refine hK _ _ ?_ rfl; first | exact Below.refl _ _ | exact hb3)))
          apply Lex.nil
          intro u w' hk hd
          simp only [List.nil_append, List.cons_append] at hd
          have hlast := hd 33 _ rfl
          simp only [Is] at hlast
          clear hd
          simp only [hlast]
          clear hlast
          have hO3 := hO.grow hk
          go_wp2_with fail
          go_ret
          exact ⟨rfl, hO3.below⟩
         have d4 : decide (1000 < s2) = false := by simpa using c4
         replace c4 := Int.not_lt.1 c4
         rcases Nat.eq_zero_or_pos k with hz | hz
         ·
          have hla1 := hk0.out hz
          have HAP := Lib.hid (HG.out (by have := hla0.out; omega))
          subst hz
          clear HG HF hk0 hkp hla1
          apply wp_region_lex
          case hFl => intro u; simp only [List.map, fill, Act.put, List.setIfInBounds_toArray, List.set_cons_zero, List.set_cons_succ, Nat.reduceAdd, Nat.zero_add]; rfl
          case hm => kernel_rfl
          case hB => kernel_rfl
          case hap => kernel_rfl
          repeat (first | (apply Lex.is; · (intro u w' hk hd; refine looked_free rfl ?_; simp [Waited, Region.binds, Is] at hd; intro K hK; have hO2 := hO.grow hk; have hca := hO2.b0.cell; have hcx := hO2.b1.cell; have hcs := hO2.b2.cell; go_wp2_with (fail); (try simp only [hd] at hK); refine hK _ _ ?_ rfl; first | exact Below.refl _ _ | exact hb3)) | (refine Lex.is (c := undef) ?_ ?_; · (intro u w' hk hd; simp [Waited, Region.binds, Is] at hd; refine looked_skip_g rfl rfl rfl ?_ rfl; simp only [hd]; first | rfl | decide)) | (apply Lex.is; · (intro u w' hk hd; simp [Waited, Region.binds, Is] at hd; refine looked_want_g rfl rfl rfl ?_ ?_; (· (simp only [hd]; first | rfl | decide)); intro K hK; have hO2 := hO.grow hk; have hca := hO2.b0.cell; have hcx := hO2.b1.cell; have hcs := hO2.b2.cell; go_wp2_with (fail); (try simp only [hd] at hK); refine hK _ _ ?_ rfl; first | exact Below.refl _ _ | exact hb3)))
          apply Lex.nil
          intro u w' hk hd
          simp only [List.nil_append, List.cons_append] at hd
          have hlast := hd 33 _ rfl
          simp only [Is] at hlast
          clear hd
          simp only [hlast]
          clear hlast
          have hO3 := hO.grow hk
          go_wp2_with fail
          go_roundw
          case rel => exact ⟨1, s1, by go_num, by omega, by omega, Lib.hid (by omega), Lib.hid (fun s _ h => by have := HS.out; rw [h] at this; cases this; rfl), HAP, by first | exact hO3.less2 (by simp) | (rw [hA2]; exact hO3.less2 (by simp))⟩
          case measure => simp [intOf] <;> omega
         ·
          obtain ⟨q, rfl⟩ : ∃ q, k = q + 1 := ⟨k - 1, by omega⟩
          obtain ⟨s', hs'⟩ := get_some hm.e2 (show q < v.n2 by omega)
          obtain ⟨g3, off3, e3, _, b0, _⟩ := hm.sects.sc hs'
          rw [hA2] at e3
          simp only [Option.some.injEq, Addr.mk.injEq] at e3
          obtain ⟨rfl, rfl, -⟩ := e3
          have hla1 : s'.to_ = la := hkp.out s' (by omega) hs'
          rw [hla1] at b0
          have kp0 := fun W (hW : Below w.heap.size w W) => (hW.cell (p := ⟨g2, off2 + q * 2, none⟩) hg2).trans b0
          have dq : decide ((0 : Int) < (q : Int) + 1) = true := by simp <;> omega
          clear hs' hla1 b0 hk0 hkp
          by_cases c5 : s1 ≤ la
          ·
           have d5 : decide (s1 ≤ la) = true := by simpa using c5
           obtain rfl := HF.out (by omega)
           clear c5
           clear HF HG hsd hend hlp
           try clear hk0 hkp
           apply wp_region_lex
           case hFl => intro u; simp only [List.map, fill, Act.put, List.setIfInBounds_toArray, List.set_cons_zero, List.set_cons_succ, Nat.reduceAdd, Nat.zero_add]; rfl
           case hm => kernel_rfl
           case hB => kernel_rfl
           case hap => kernel_rfl
           repeat (first | (apply Lex.is; · (intro u w' hk hd; refine looked_free rfl ?_; simp [Waited, Region.binds, Is] at hd; intro K hK; have hO2 := hO.grow hk; have hca := hO2.b0.cell; have hcx := hO2.b1.cell; have hcs := hO2.b2.cell ; have m0 := kp0 _ hO2.below; go_wp2_with (fail); (try simp only [hd] at hK); refine hK _ _ ?_ rfl; first | exact Below.refl _ _ | exact hb3)) | (refine Lex.is (c := undef) ?_ ?_; · (intro u w' hk hd; simp [Waited, Region.binds, Is] at hd; refine looked_skip_g rfl rfl rfl ?_ rfl; simp only [hd]; first | rfl | decide)) | (apply Lex.is; · (intro u w' hk hd; simp [Waited, Region.binds, Is] at hd; refine looked_want_g rfl rfl rfl ?_ ?_; (· (simp only [hd]; first | rfl | decide)); intro K hK; have hO2 := hO.grow hk; have hca := hO2.b0.cell; have hcx := hO2.b1.cell; have hcs := hO2.b2.cell ; have m0 := kp0 _ hO2.below; go_wp2_with (fail); (try simp only [hd] at hK); refine hK _ _ ?_ rfl; first | exact Below.refl _ _ | exact hb3)))
           apply Lex.nil
           intro u w' hk hd
           simp only [List.nil_append, List.cons_append] at hd
           have hlast := hd 33 _ rfl
           simp only [Is] at hlast
           clear hd
           simp only [hlast]
           clear hlast
           have hO3 := hO.grow hk
           go_wp2_with fail
           go_ret
           exact ⟨rfl, hO3.below⟩
          ·
           have d5 : decide (s1 ≤ la) = false := by simpa using c5
           replace c5 := Int.not_le.1 c5
           have HAP := Lib.hid (HG.out (by have := hla0.out; omega))
           clear HG HF c5
           apply wp_region_lex
           case hFl => intro u; simp only [List.map, fill, Act.put, List.setIfInBounds_toArray, List.set_cons_zero, List.set_cons_succ, Nat.reduceAdd, Nat.zero_add]; rfl
           case hm => kernel_rfl
           case hB => kernel_rfl
           case hap => kernel_rfl
           repeat (first | (apply Lex.is; · (intro u w' hk hd; refine looked_free rfl ?_; simp [Waited, Region.binds, Is] at hd; intro K hK; have hO2 := hO.grow hk; have hca := hO2.b0.cell; have hcx := hO2.b1.cell; have hcs := hO2.b2.cell ; have m0 := kp0 _ hO2.below; go_wp2_with (fail); (try simp only [hd] at hK); refine hK _ _ ?_ rfl; first | exact Below.refl _ _ | exact hb3)) | (refine Lex.is (c := undef) ?_ ?_; · (intro u w' hk hd; simp [Waited, Region.binds, Is] at hd; refine looked_skip_g rfl rfl rfl ?_ rfl; simp only [hd]; first | rfl | decide)) | (apply Lex.is; · (intro u w' hk hd; simp [Waited, Region.binds, Is] at hd; refine looked_want_g rfl rfl rfl ?_ ?_; (· (simp only [hd]; first | rfl | decide)); intro K hK; have hO2 := hO.grow hk; have hca := hO2.b0.cell; have hcx := hO2.b1.cell; have hcs := hO2.b2.cell ; have m0 := kp0 _ hO2.below; go_wp2_with (fail); (try simp only [hd] at hK); refine hK _ _ ?_ rfl; first | exact Below.refl _ _ | exact hb3)))
           apply Lex.nil
           intro u w' hk hd
           simp only [List.nil_append, List.cons_append] at hd
           have hlast := hd 33 _ rfl
           simp only [Is] at hlast
           clear hd
           simp only [hlast]
           clear hlast
           have hO3 := hO.grow hk
           go_wp2_with fail
           go_roundw
           case rel => exact ⟨q + 2, s1, by go_num, by omega, by omega, Lib.hid (by omega), Lib.hid (fun s _ h => by have := HS.out; rw [show q + 2 - 1 = q + 1 by omega, this] at h; cases h; rfl), HAP, by first | exact hO3.less2 (by simp) | (rw [hA2]; exact hO3.less2 (by simp))⟩
           case measure => simp [intOf] <;> omega
         --> RA
        ·
         obtain rfl : k = v.n2 := by omega
         --< RB
         have hdc : decide ((v.n2 : Int) < (v.n2 : Int)) = false := by simp
         have hyes : sectsD 0 ma.sects = true := by
          rw [hap.out, List.drop_of_length_le (by rw [hm.e2]; exact Nat.le_refl _)]
          rfl
         have hlp2 := hlp.out hyes
         have hlen2 := hlen'.out
         have hbb2 := hbb.out
         have g52 := g5.out
         have g62 := g6.out
         have hmp := hend.out hyes
         have hep : ep = lp + gp := by
          rw [hen'.out]
          simp only [wrap64]
          omega
         have hww : wrap64 (lt - bd) = lt - bd := by simp only [wrap64]; omega
         have HMP := Lib.hid hmp
         rw [hep] at hla
         clear hap hyes hmp hep hen' hsd hend hlp hkp hk0 hlp2 hlen2 hbb2 g52 g62
         go_wp2_with (first
          |(go_at_call 68; (with_reducible refine (hla _ hO.below).mono ?_); rintro e w7 ⟨rfl, hb7⟩; replace hO := hO.grow hb7; have hcl7 := hO.b0.cell; have hcx7 := hO.b1.cell)
          |(go_at_call 65; (with_reducible refine (hbe _ hO.below).mono ?_); rintro e w8 ⟨rfl, hb8⟩; replace hO := hO.grow hb8))
         go_ret
         exact ⟨by rw [HMP.out]; simp, hO.below⟩
         --> RB
       --> LOOP
      ·
       obtain rfl := hfalse (.inr (.inr (.inr g8)))
       have e2 : (le != 0) = true := by simpa using g8
       clear hfalse
       go_enter Tryz.func62, Tryz.ntmps62
       go_wp2_with (
        (first
         |(go_at_call 112; (with_reducible refine (hpl _ hO.below).mono ?_); rintro e w1 ⟨rfl, hb1⟩; replace hO := Own.new2 (hO.grow hb1) 38 #[.int .i64 pe, .int .i64 pa, .bool m5]; have hcl1 := hO.b0.cell; have hcx1 := hO.b1.cell; have hcp1 := hO.b2.cell)
         |(go_at_call 111; (with_reducible refine (hck _ hO.below).mono ?_); rintro e w2 ⟨rfl, hb2⟩; replace hO := hO.grow hb2; have hcl2 := hO.b0.cell; have hcx2 := hO.b1.cell; have hcp2 := hO.b2.cell))
        )
       clear hcl hcx
       apply wp_region_lex
       case hFl => intro u; simp only [List.map, fill, Act.put, List.setIfInBounds_toArray, List.set_cons_zero, List.set_cons_succ, Nat.reduceAdd, Nat.zero_add]; rfl
       case hm => kernel_rfl
       case hB => kernel_rfl
       case hap => kernel_rfl
       repeat (first | (apply Lex.is; · (intro u w' hk hd; refine looked_free rfl ?_; simp [Waited, Region.binds, Is] at hd; intro K hK; have hO2 := hO.grow hk; have hca := hO2.b1.cell; have hcb := hO2.b2.cell; have m0 := k0 _ hO2.below; have m1 := k1 _ hO2.below; go_wp2_with (fail); (try simp only [hd] at hK); refine hK _ _ ?_ rfl; first | exact Below.refl _ _ | exact hb3)) | (refine Lex.is (c := undef) ?_ ?_; · (intro u w' hk hd; simp [Waited, Region.binds, Is] at hd; refine looked_skip_g rfl rfl rfl ?_ rfl; simp only [hd]; first | rfl | decide)) | (apply Lex.is; · (intro u w' hk hd; simp [Waited, Region.binds, Is] at hd; refine looked_want_g rfl rfl rfl ?_ ?_; (· (simp only [hd]; first | rfl | decide)); intro K hK; have hO2 := hO.grow hk; have hca := hO2.b1.cell; have hcb := hO2.b2.cell; have m0 := k0 _ hO2.below; have m1 := k1 _ hO2.below; go_wp2_with (fail); (try simp only [hd] at hK); refine hK _ _ ?_ rfl; first | exact Below.refl _ _ | exact hb3)))
       apply Lex.nil
       intro u w' hk hd
       simp only [List.nil_append, List.cons_append] at hd
       have hlast := hd 17 _ rfl
       simp only [Is] at hlast
       clear hd
       simp only [hlast]
       clear hlast
       replace hO := hO.grow hk
       clear hk
       have hcl := hO.b0.cell
       have hcx := hO.b1.cell
       go_wp2_with (first
        |(go_at_call 113; (with_reducible refine (htw _ hO.below).mono ?_); rintro e w4 ⟨rfl, hb4⟩; replace hO := hO.grow hb4; have hcl4 := hO.b0.cell; have hcx4 := hO.b1.cell)
        |(go_at_call 114; (with_reducible refine (hle _ hO.below).mono ?_); rintro e w5 ⟨rfl, hb5⟩; replace hO := hO.grow hb5))
       go_ret
       exact ⟨rfl, hO.below⟩
    ·
     have e1 : (s2 != m5) = true := by simpa using g7
     have e1b : (s2 == m5) = false := by simpa using g7
     obtain rfl := hfalse (.inr (.inl fun e => g7 e.symm))
     clear hfalse g7
     go_enter Tryz.func62, Tryz.ntmps62
     go_wp2_with (
      (first
       |(go_at_call 112; (with_reducible refine (hpl _ hO.below).mono ?_); rintro e w1 ⟨rfl, hb1⟩; replace hO := Own.new2 (hO.grow hb1) 38 #[.int .i64 pe, .int .i64 pa, .bool m5]; have hcl1 := hO.b0.cell; have hcx1 := hO.b1.cell; have hcp1 := hO.b2.cell)
       |(go_at_call 111; (with_reducible refine (hck _ hO.below).mono ?_); rintro e w2 ⟨rfl, hb2⟩; replace hO := hO.grow hb2; have hcl2 := hO.b0.cell; have hcx2 := hO.b1.cell; have hcp2 := hO.b2.cell))
      )
     clear hcl hcx
     apply wp_region_lex
     case hFl => intro u; simp only [List.map, fill, Act.put, List.setIfInBounds_toArray, List.set_cons_zero, List.set_cons_succ, Nat.reduceAdd, Nat.zero_add]; rfl
     case hm => kernel_rfl
     case hB => kernel_rfl
     case hap => kernel_rfl
     repeat (first | (apply Lex.is; · (intro u w' hk hd; refine looked_free rfl ?_; simp [Waited, Region.binds, Is] at hd; intro K hK; have hO2 := hO.grow hk; have hca := hO2.b1.cell; have hcb := hO2.b2.cell; have m0 := k0 _ hO2.below; have m1 := k1 _ hO2.below; go_wp2_with (fail); (try simp only [hd] at hK); refine hK _ _ ?_ rfl; first | exact Below.refl _ _ | exact hb3)) | (refine Lex.is (c := undef) ?_ ?_; · (intro u w' hk hd; simp [Waited, Region.binds, Is] at hd; refine looked_skip_g rfl rfl rfl ?_ rfl; simp only [hd]; first | rfl | decide)) | (apply Lex.is; · (intro u w' hk hd; simp [Waited, Region.binds, Is] at hd; refine looked_want_g rfl rfl rfl ?_ ?_; (· (simp only [hd]; first | rfl | decide)); intro K hK; have hO2 := hO.grow hk; have hca := hO2.b1.cell; have hcb := hO2.b2.cell; have m0 := k0 _ hO2.below; have m1 := k1 _ hO2.below; go_wp2_with (fail); (try simp only [hd] at hK); refine hK _ _ ?_ rfl; first | exact Below.refl _ _ | exact hb3)))
     apply Lex.nil
     intro u w' hk hd
     simp only [List.nil_append, List.cons_append] at hd
     have hlast := hd 17 _ rfl
     simp only [Is] at hlast
     clear hd
     simp only [hlast]
     clear hlast
     replace hO := hO.grow hk
     clear hk
     go_wp2_with fail
     go_ret
     exact ⟨rfl, hO.below⟩
   ·
    have e0 : (s1 != pe) = true := by simpa using g0
    obtain rfl := hfalse (.inl fun e => g0 e.symm)
    clear hfalse g0
    go_enter Tryz.func62, Tryz.ntmps62
    go_wp2_with (
     (first
      |(go_at_call 112; (with_reducible refine (hpl _ hO.below).mono ?_); rintro e w1 ⟨rfl, hb1⟩; replace hO := Own.new2 (hO.grow hb1) 38 #[.int .i64 pe, .int .i64 pa, .bool m5]; have hcl1 := hO.b0.cell; have hcx1 := hO.b1.cell; have hcp1 := hO.b2.cell)
      |(go_at_call 111; (with_reducible refine (hck _ hO.below).mono ?_); rintro e w2 ⟨rfl, hb2⟩; replace hO := hO.grow hb2; have hcl2 := hO.b0.cell; have hcx2 := hO.b1.cell; have hcp2 := hO.b2.cell))
     )
    clear hcl hcx
    apply wp_region_lex
    case hFl => intro u; simp only [List.map, fill, Act.put, List.setIfInBounds_toArray, List.set_cons_zero, List.set_cons_succ, Nat.reduceAdd, Nat.zero_add]; rfl
    case hm => kernel_rfl
    case hB => kernel_rfl
    case hap => kernel_rfl
    repeat (first | (apply Lex.is; · (intro u w' hk hd; refine looked_free rfl ?_; simp [Waited, Region.binds, Is] at hd; intro K hK; have hO2 := hO.grow hk; have hca := hO2.b1.cell; have hcb := hO2.b2.cell; have m0 := k0 _ hO2.below; have m1 := k1 _ hO2.below; go_wp2_with (fail); (try simp only [hd] at hK); refine hK _ _ ?_ rfl; first | exact Below.refl _ _ | exact hb3)) | (refine Lex.is (c := undef) ?_ ?_; · (intro u w' hk hd; simp [Waited, Region.binds, Is] at hd; refine looked_skip_g rfl rfl rfl ?_ rfl; simp only [hd]; first | rfl | decide)) | (apply Lex.is; · (intro u w' hk hd; simp [Waited, Region.binds, Is] at hd; refine looked_want_g rfl rfl rfl ?_ ?_; (· (simp only [hd]; first | rfl | decide)); intro K hK; have hO2 := hO.grow hk; have hca := hO2.b1.cell; have hcb := hO2.b2.cell; have m0 := k0 _ hO2.below; have m1 := k1 _ hO2.below; go_wp2_with (fail); (try simp only [hd] at hK); refine hK _ _ ?_ rfl; first | exact Below.refl _ _ | exact hb3)))
    apply Lex.nil
    intro u w' hk hd
    simp only [List.nil_append, List.cons_append] at hd
    have hlast := hd 17 _ rfl
    simp only [Is] at hlast
    clear hd
    simp only [hlast]
    clear hlast
    replace hO := hO.grow hk
    clear hk
    go_wp2_with fail
    go_ret
    exact ⟨rfl, hO.below⟩
 ·
  have f0 : (ck != 0) = true := by simpa using h1
  have hnk := Lib.hid h1
  clear h1
  obtain rfl : mp = false := Bool.eq_false_iff.2 fun hh => by
   obtain ⟨h1, h2, h3, h4, h5, h6, h7, _⟩ := HM.out.1 hh
   exact hnk.out h1
  go_enter Tryz.func62, Tryz.ntmps62
  go_wp2_with (
   (first
    |(go_at_call 112; (with_reducible refine (hpl _ hO.below).mono ?_); rintro e w1 ⟨rfl, hb1⟩; replace hO := Own.new2 (hO.grow hb1) 38 #[.int .i64 pe, .int .i64 pa, .bool m5]; have hcl1 := hO.b0.cell; have hcx1 := hO.b1.cell; have hcp1 := hO.b2.cell)
    |(go_at_call 111; (with_reducible refine (hck _ hO.below).mono ?_); rintro e w2 ⟨rfl, hb2⟩; replace hO := hO.grow hb2; have hcl2 := hO.b0.cell; have hcx2 := hO.b1.cell; have hcp2 := hO.b2.cell))
   )
  go_ret
  exact ⟨rfl, hO.below⟩
end Go.Proofs.YtkaggddmhjifjaaGreatDoor
