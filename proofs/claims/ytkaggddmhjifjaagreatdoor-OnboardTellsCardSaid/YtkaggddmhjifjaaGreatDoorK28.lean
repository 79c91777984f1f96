/- Texts in one: DocTopo. -/
import Derived.Test.YtkaggddmhjifjaaGreatDoorK08
import Derived.Test.YtkaggddmhjifjaaGreatDoorK09
set_option linter.unusedSimpArgs false
set_option linter.unusedVariables false
namespace Go.Proofs.YtkaggddmhjifjaaGreatDoor
open Go.RowKit Go.Shelf
theorem redge_k (t : Tp) (v : TpV) (e : Int) (w : World) : Calls Tryz.prog 167 #[.agg (v.cells t), .int .i64 e] w fun r w' => r = .returned (.bool (thereT t e)) ∧ Below w.heap.size w w' := by
 unfold TpV.cells thereT
 generalize t.edges.length = n1
 generalize t.joints.length = n2
 generalize t.bals.length = n3
 generalize t.routes.length = n4
 obtain ⟨A1, c1, A2, c2, A3, c3, A4, c4, rs⟩ := v
 simp only
 have hO : Own w _ [_] := (Own.nil w).alloc 27 #[.slice A1 n1 c1, .slice A2 n2 c2, .slice A3 n3 c3, .slice A4 n4 c4] _ rfl
 have hcl := hO.b0.cell
 by_cases h1 : 0 ≤ e
 ·
  rw [decide_eq_true h1]
  go_enter Tryz.func167, Tryz.ntmps167
  go_wp2_with fail
  go_ret
  exact ⟨by simp, hO.below⟩
 ·
  rw [decide_eq_false h1]
  go_enter Tryz.func167, Tryz.ntmps167
  go_wp2_with fail
  go_ret
  exact ⟨by simp, hO.below⟩
theorem rend_k (t : Tp) (v : TpV) (x : En) (w : World) : Calls Tryz.prog 165 #[.agg (v.cells t), enV x] w fun r w' => r = .returned (.bool (endT t x)) ∧ Below w.heap.size w w' := by
 have ht := fun W => redge_k t v x.edge W
 unfold endT
 unfold TpV.cells at ht ⊢
 generalize thereT t x.edge = r at ht ⊢
 generalize t.joints.length = n2 at *
 generalize t.edges.length = n1 at *
 generalize t.bals.length = n3 at *
 generalize t.routes.length = n4 at *
 obtain ⟨A1, c1, A2, c2, A3, c3, A4, c4, rs⟩ := v
 obtain ⟨e, a⟩ := x
 simp only [enV] at ht ⊢
 have hO : Own w _ [_, _] := Own.start2 w 27 89 #[.slice A1 n1 c1, .slice A2 n2 c2, .slice A3 n3 c3, .slice A4 n4 c4] #[.int .i64 e, .int .i64 a]
 have hcl := hO.b0.cell
 have hcl1 := hO.b1.cell
 by_cases h0 : a = 0
 ·
  subst h0
  cases r
  all_goals
   go_enter Tryz.func165, Tryz.ntmps165
   go_wp2_with (first
    |(go_at_call 167; (with_reducible refine (ht _).mono ?_); rintro e w1 ⟨rfl, hb1⟩; replace hO := hO.grow hb1; have hcl3 := hO.b1.cell))
   go_ret
   exact ⟨by simp, hO.below⟩
 ·
  have f0 : (a == 0) = false := by simpa using h0
  cases r
  all_goals
   go_enter Tryz.func165, Tryz.ntmps165
   go_wp2_with (first
    |(go_at_call 167; (with_reducible refine (ht _).mono ?_); rintro e w1 ⟨rfl, hb1⟩; replace hO := hO.grow hb1; have hcl3 := hO.b1.cell))
   go_ret
   refine ⟨?_, hO.below⟩
   by_cases h1 : a = 1 <;> simp [h0, h1]
theorem rin_k (s : St) (w : World) : Calls Tryz.prog 229 #[stV s] w fun r w' => r = .returned (enV (entersT s)) ∧ Below w.heap.size w w' := by
 obtain ⟨e, r⟩ := s
 have hO : Own w _ [_, _] := ((Own.nil w).alloc 95 #[.int .i64 e, .bool r] _ rfl).alloc 89 #[.int .i64 0, .int .i64 0] _ rfl
 have hcl := hO.b0.cell
 cases r
 ·
  go_enter Tryz.func229, Tryz.ntmps229
  go_wp2_with fail
  replace hO : Own w _ [_, _] := Own.start2 w 95 89 #[.int .i64 e, .bool false] #[.int .i64 e, .int .i64 0]
  exact bodyPost_ret (results_c Tryz.results229 _ _ _ _ _ rfl hO.b1 Tryz.underlying89 rfl (by kernel_rfl)) rfl ⟨rfl, hO.below⟩
 ·
  go_enter Tryz.func229, Tryz.ntmps229
  go_wp2_with fail
  replace hO : Own w _ [_, _] := Own.start2 w 95 89 #[.int .i64 e, .bool true] #[.int .i64 e, .int .i64 1]
  exact bodyPost_ret (results_c Tryz.results229 _ _ _ _ _ rfl hO.b1 Tryz.underlying89 rfl (by kernel_rfl)) rfl ⟨rfl, hO.below⟩
theorem rout_k (s : St) (w : World) : Calls Tryz.prog 228 #[stV s] w fun r w' => r = .returned (enV (leavesT s)) ∧ Below w.heap.size w w' := by
 obtain ⟨e, r⟩ := s
 have hO : Own w _ [_, _] := ((Own.nil w).alloc 95 #[.int .i64 e, .bool r] _ rfl).alloc 89 #[.int .i64 0, .int .i64 0] _ rfl
 have hcl := hO.b0.cell
 cases r
 ·
  go_enter Tryz.func228, Tryz.ntmps228
  go_wp2_with fail
  replace hO : Own w _ [_, _] := Own.start2 w 95 89 #[.int .i64 e, .bool false] #[.int .i64 e, .int .i64 1]
  exact bodyPost_ret (results_c Tryz.results228 _ _ _ _ _ rfl hO.b1 Tryz.underlying89 rfl (by kernel_rfl)) rfl ⟨rfl, hO.below⟩
 ·
  go_enter Tryz.func228, Tryz.ntmps228
  go_wp2_with fail
  replace hO : Own w _ [_, _] := Own.start2 w 95 89 #[.int .i64 e, .bool true] #[.int .i64 e, .int .i64 0]
  exact bodyPost_ret (results_c Tryz.results228 _ _ _ _ _ rfl hO.b1 Tryz.underlying89 rfl (by kernel_rfl)) rfl ⟨rfl, hO.below⟩
theorem joins_take {js : List Jt} {k : Nat} {j : Jt} {a b : En} (h : js[k]? = some j) (h0 : joinsT (js.take k) a b = false) : joinsT (js.take (k + 1)) a b = (decide (j.a = a) && decide (j.b = b) || decide (j.a = b) && decide (j.b = a)) := by
 unfold joinsT at *
 rw [take_snoc' h]
 simp only [Bool.or_eq_false_iff, decide_eq_false_iff_not] at h0
 obtain ⟨j1, j2⟩ := j
 rw [Bool.eq_iff_iff]
 simp only [Bool.or_eq_true, Bool.and_eq_true, decide_eq_true_eq, List.mem_append, List.mem_singleton, Jt.mk.injEq, h0.1, h0.2, false_or]
 constructor
 ·
  rintro (⟨rfl, rfl⟩ | ⟨rfl, rfl⟩)
  ·
   exact .inl ⟨rfl, rfl⟩
  ·
   exact .inr ⟨rfl, rfl⟩
 ·
  rintro (⟨rfl, rfl⟩ | ⟨rfl, rfl⟩)
  ·
   exact .inl ⟨rfl, rfl⟩
  ·
   exact .inr ⟨rfl, rfl⟩
theorem joins_mono {js : List Jt} {k : Nat} {a b : En} (h : joinsT (js.take k) a b = true) : joinsT js a b = true := by
 unfold joinsT at *
 simp only [Bool.or_eq_true, decide_eq_true_eq] at h ⊢
 exact h.imp List.mem_of_mem_take List.mem_of_mem_take
set_option maxRecDepth 8000 in
set_option maxHeartbeats 8000000 in
theorem rjoined_k (A : Option Addr) (n c : Nat) (js : List Jt) (a b : En) (w : World) (hR : RowsAt encJt w A js) (hn : js.length = n) (hl : n ≤ 100) : Calls Tryz.prog 166 #[.slice A n c, enV a, enV b] w fun r w' => r = .returned (.bool (joinsT js a b)) ∧ Below w.heap.size w w' := by
 obtain ⟨a1, a2⟩ := a
 obtain ⟨b1, b2⟩ := b
 have hO : Own w _ [_, _] := Own.start2 w 89 89 #[.int .i64 a1, .int .i64 a2] #[.int .i64 b1, .int .i64 b2]
 have HN := Lib.hid hn
 clear hn
 simp only [enV]
 go_enter Tryz.func166, Tryz.ntmps166
 go_wp2
 go_loopw [7] (fun i wr => ∃ k : Nat, i = .int .i64 k ∧ k ≤ n ∧ Hid (joinsT (js.take k) ⟨a1, a2⟩ ⟨b1, b2⟩ = false) ∧ Own w wr [(w.heap.size, 89, #[.int .i64 a1, .int .i64 a2]), (w.heap.size + 1, 89, #[.int .i64 b1, .int .i64 b2])]) (fun i _ => n - (intOf i).toNat)
 case atStart => exact ⟨0, rfl, Nat.zero_le _, Lib.hid (by simp [joinsT]), hO⟩
 case round =>
  clear hO
  obtain ⟨k, rfl, hk, hno, hO⟩ := hrel
  by_cases hlt : k < n
  ·
   obtain ⟨j, hj⟩ := get_some HN.out hlt
   obtain ⟨g, off, rfl, hg, q0, q1, q2, q3⟩ := hR.jt hj
   have k0 := fun W (hW : Below w.heap.size w W) => (hW.cell (p := ⟨g, off + k * 4, none⟩) hg).trans q0
   have k1 := fun W (hW : Below w.heap.size w W) => (hW.cell (p := ⟨g, off + k * 4 + 1, none⟩) hg).trans q1
   have k2 := fun W (hW : Below w.heap.size w W) => (hW.cell (p := ⟨g, off + k * 4 + 2, none⟩) hg).trans q2
   have k3 := fun W (hW : Below w.heap.size w W) => (hW.cell (p := ⟨g, off + k * 4 + 3, none⟩) hg).trans q3
   have hstep := joins_take hj hno.out
   obtain ⟨⟨x1, x2⟩, ⟨x3, x4⟩⟩ := j
   simp only at hstep k0 k1 k2 k3
   have e1 := run_eql_en ⟨x1, x2⟩ ⟨a1, a2⟩
   have e2 := run_eql_en ⟨x3, x4⟩ ⟨b1, b2⟩
   have e3 := run_eql_en ⟨x1, x2⟩ ⟨b1, b2⟩
   have e4 := run_eql_en ⟨x3, x4⟩ ⟨a1, a2⟩
   generalize decide ((⟨x1, x2⟩ : En) = ⟨a1, a2⟩) = p1 at *
   generalize decide ((⟨x3, x4⟩ : En) = ⟨b1, b2⟩) = p2 at *
   generalize decide ((⟨x1, x2⟩ : En) = ⟨b1, b2⟩) = p3 at *
   generalize decide ((⟨x3, x4⟩ : En) = ⟨a1, a2⟩) = p4 at *
   simp only [enV] at e1 e2 e3 e4
   clear hj q0 q1 q2 q3
   have hdc : decide ((k : Int) < (n : Int)) = true := by simpa using hlt
   cases p1 with
   | true =>
    cases p2 with
    | true =>
     simp only [Bool.and_true, Bool.true_or] at hstep
     have hyes := Lib.hid (joins_mono hstep)
     clear hstep hno
     go_wp2
     apply wp_region_lex
     case hFl => intro u; simp only [List.map, fill, Act.put, List.setIfInBounds_toArray, List.set_cons_zero, List.set_cons_succ, Nat.reduceAdd, Nat.zero_add]; rfl
     case hm => kernel_rfl
     case hB => kernel_rfl
     case hap => kernel_rfl
     repeat (first | (apply Lex.is; · (intro u w' hk hd; simp [Waited, Region.binds, Is] at hd; refine looked_want ?_ ?_; (· (first | rfl | (simp [Region.wanted, yielded, hd]; done))); intro K hK; have hO2 := hO.grow hk; have hB2 := hO2.below; have hca := hO2.b0.cell; have hcb := hO2.b1.cell; have m0 := k0 _ hB2; have m1 := k1 _ hB2; have m2 := k2 _ hB2; have m3 := k3 _ hB2; go_wp2_with (fail); (try simp only [hd] at hK); refine hK _ _ ?_ rfl; first | exact Below.refl _ _ | exact hb3)) | (refine Lex.is (c := undef) ?_ ?_; · (intro u w' hk hd; simp [Waited, Region.binds, Is] at hd; refine looked_skip ?_ rfl; first | (simp [Region.wanted, yielded, hd]; done) | (simp [Region.wanted, yielded, hd, undef]; done))))
     apply Lex.nil
     intro u w' hk hd
     simp only [List.nil_append, List.cons_append] at hd
     have hlast := hd 33 _ rfl
     simp only [Is] at hlast
     clear hd
     simp only [hlast]
     clear hlast
     have hO3 := hO.grow hk
     go_wp2_with fail
     go_ret
     exact ⟨by simp [hyes.out], hO3.below⟩
    | false =>
     cases p3 with
     | true =>
      cases p4 with
      | true =>
       simp only [Bool.and_true, Bool.or_true] at hstep
       have hyes := Lib.hid (joins_mono hstep)
       clear hstep hno
       go_wp2
       apply wp_region_lex
       case hFl => intro u; simp only [List.map, fill, Act.put, List.setIfInBounds_toArray, List.set_cons_zero, List.set_cons_succ, Nat.reduceAdd, Nat.zero_add]; rfl
       case hm => kernel_rfl
       case hB => kernel_rfl
       case hap => kernel_rfl
       repeat (first | (apply Lex.is; · (intro u w' hk hd; simp [Waited, Region.binds, Is] at hd; refine looked_want ?_ ?_; (· (first | rfl | (simp [Region.wanted, yielded, hd]; done))); intro K hK; have hO2 := hO.grow hk; have hB2 := hO2.below; have hca := hO2.b0.cell; have hcb := hO2.b1.cell; have m0 := k0 _ hB2; have m1 := k1 _ hB2; have m2 := k2 _ hB2; have m3 := k3 _ hB2; go_wp2_with (fail); (try simp only [hd] at hK); refine hK _ _ ?_ rfl; first | exact Below.refl _ _ | exact hb3)) | (refine Lex.is (c := undef) ?_ ?_; · (intro u w' hk hd; simp [Waited, Region.binds, Is] at hd; refine looked_skip ?_ rfl; first | (simp [Region.wanted, yielded, hd]; done) | (simp [Region.wanted, yielded, hd, undef]; done))))
       apply Lex.nil
       intro u w' hk hd
       simp only [List.nil_append, List.cons_append] at hd
       have hlast := hd 33 _ rfl
       simp only [Is] at hlast
       clear hd
       simp only [hlast]
       clear hlast
       have hO3 := hO.grow hk
       go_wp2_with fail
       go_ret
       exact ⟨by simp [hyes.out], hO3.below⟩
      | false =>
       simp only [Bool.and_false, Bool.or_false] at hstep
       have HNO := Lib.hid hstep
       clear hstep hno
       go_wp2
       apply wp_region_lex
       case hFl => intro u; simp only [List.map, fill, Act.put, List.setIfInBounds_toArray, List.set_cons_zero, List.set_cons_succ, Nat.reduceAdd, Nat.zero_add]; rfl
       case hm => kernel_rfl
       case hB => kernel_rfl
       case hap => kernel_rfl
       repeat (first | (apply Lex.is; · (intro u w' hk hd; simp [Waited, Region.binds, Is] at hd; refine looked_want ?_ ?_; (· (first | rfl | (simp [Region.wanted, yielded, hd]; done))); intro K hK; have hO2 := hO.grow hk; have hB2 := hO2.below; have hca := hO2.b0.cell; have hcb := hO2.b1.cell; have m0 := k0 _ hB2; have m1 := k1 _ hB2; have m2 := k2 _ hB2; have m3 := k3 _ hB2; go_wp2_with (fail); (try simp only [hd] at hK); refine hK _ _ ?_ rfl; first | exact Below.refl _ _ | exact hb3)) | (refine Lex.is (c := undef) ?_ ?_; · (intro u w' hk hd; simp [Waited, Region.binds, Is] at hd; refine looked_skip ?_ rfl; first | (simp [Region.wanted, yielded, hd]; done) | (simp [Region.wanted, yielded, hd, undef]; done))))
       apply Lex.nil
       intro u w' hk hd
       simp only [List.nil_append, List.cons_append] at hd
       have hlast := hd 33 _ rfl
       simp only [Is] at hlast
       clear hd
       simp only [hlast]
       clear hlast
       have hO3 := hO.grow hk
       go_wp2_with fail
       go_roundw
       case rel => exact ⟨k + 1, by go_num, by omega, HNO, hO3⟩
       case measure => simp [intOf]; omega
     | false =>
      simp only [Bool.and_false, Bool.false_and, Bool.or_false] at hstep
      have HNO := Lib.hid hstep
      clear hstep hno
      go_wp2
      apply wp_region_lex
      case hFl => intro u; simp only [List.map, fill, Act.put, List.setIfInBounds_toArray, List.set_cons_zero, List.set_cons_succ, Nat.reduceAdd, Nat.zero_add]; rfl
      case hm => kernel_rfl
      case hB => kernel_rfl
      case hap => kernel_rfl
      repeat (first | (apply Lex.is; · (intro u w' hk hd; simp [Waited, Region.binds, Is] at hd; refine looked_want ?_ ?_; (· (first | rfl | (simp [Region.wanted, yielded, hd]; done))); intro K hK; have hO2 := hO.grow hk; have hB2 := hO2.below; have hca := hO2.b0.cell; have hcb := hO2.b1.cell; have m0 := k0 _ hB2; have m1 := k1 _ hB2; have m2 := k2 _ hB2; have m3 := k3 _ hB2; go_wp2_with (fail); (try simp only [hd] at hK); refine hK _ _ ?_ rfl; first | exact Below.refl _ _ | exact hb3)) | (refine Lex.is (c := undef) ?_ ?_; · (intro u w' hk hd; simp [Waited, Region.binds, Is] at hd; refine looked_skip ?_ rfl; first | (simp [Region.wanted, yielded, hd]; done) | (simp [Region.wanted, yielded, hd, undef]; done))))
      apply Lex.nil
      intro u w' hk hd
      simp only [List.nil_append, List.cons_append] at hd
      have hlast := hd 33 _ rfl
      simp only [Is] at hlast
      clear hd
      simp only [hlast]
      clear hlast
      have hO3 := hO.grow hk
      go_wp2_with fail
      go_roundw
      case rel => exact ⟨k + 1, by go_num, by omega, HNO, hO3⟩
      case measure => simp [intOf]; omega
   | false =>
    cases p3 with
    | true =>
     cases p4 with
     | true =>
      simp only [Bool.and_true, Bool.or_true] at hstep
      have hyes := Lib.hid (joins_mono hstep)
      clear hstep hno
      go_wp2
      apply wp_region_lex
      case hFl => intro u; simp only [List.map, fill, Act.put, List.setIfInBounds_toArray, List.set_cons_zero, List.set_cons_succ, Nat.reduceAdd, Nat.zero_add]; rfl
      case hm => kernel_rfl
      case hB => kernel_rfl
      case hap => kernel_rfl
      repeat (first | (apply Lex.is; · (intro u w' hk hd; simp [Waited, Region.binds, Is] at hd; refine looked_want ?_ ?_; (· (first | rfl | (simp [Region.wanted, yielded, hd]; done))); intro K hK; have hO2 := hO.grow hk; have hB2 := hO2.below; have hca := hO2.b0.cell; have hcb := hO2.b1.cell; have m0 := k0 _ hB2; have m1 := k1 _ hB2; have m2 := k2 _ hB2; have m3 := k3 _ hB2; go_wp2_with (fail); (try simp only [hd] at hK); refine hK _ _ ?_ rfl; first | exact Below.refl _ _ | exact hb3)) | (refine Lex.is (c := undef) ?_ ?_; · (intro u w' hk hd; simp [Waited, Region.binds, Is] at hd; refine looked_skip ?_ rfl; first | (simp [Region.wanted, yielded, hd]; done) | (simp [Region.wanted, yielded, hd, undef]; done))))
      apply Lex.nil
      intro u w' hk hd
      simp only [List.nil_append, List.cons_append] at hd
      have hlast := hd 33 _ rfl
      simp only [Is] at hlast
      clear hd
      simp only [hlast]
      clear hlast
      have hO3 := hO.grow hk
      go_wp2_with fail
      go_ret
      exact ⟨by simp [hyes.out], hO3.below⟩
     | false =>
      simp only [Bool.and_false, Bool.false_and, Bool.or_false] at hstep
      have HNO := Lib.hid hstep
      clear hstep hno
      go_wp2
      apply wp_region_lex
      case hFl => intro u; simp only [List.map, fill, Act.put, List.setIfInBounds_toArray, List.set_cons_zero, List.set_cons_succ, Nat.reduceAdd, Nat.zero_add]; rfl
      case hm => kernel_rfl
      case hB => kernel_rfl
      case hap => kernel_rfl
      repeat (first | (apply Lex.is; · (intro u w' hk hd; simp [Waited, Region.binds, Is] at hd; refine looked_want ?_ ?_; (· (first | rfl | (simp [Region.wanted, yielded, hd]; done))); intro K hK; have hO2 := hO.grow hk; have hB2 := hO2.below; have hca := hO2.b0.cell; have hcb := hO2.b1.cell; have m0 := k0 _ hB2; have m1 := k1 _ hB2; have m2 := k2 _ hB2; have m3 := k3 _ hB2; go_wp2_with (fail); (try simp only [hd] at hK); refine hK _ _ ?_ rfl; first | exact Below.refl _ _ | exact hb3)) | (refine Lex.is (c := undef) ?_ ?_; · (intro u w' hk hd; simp [Waited, Region.binds, Is] at hd; refine looked_skip ?_ rfl; first | (simp [Region.wanted, yielded, hd]; done) | (simp [Region.wanted, yielded, hd, undef]; done))))
      apply Lex.nil
      intro u w' hk hd
      simp only [List.nil_append, List.cons_append] at hd
      have hlast := hd 33 _ rfl
      simp only [Is] at hlast
      clear hd
      simp only [hlast]
      clear hlast
      have hO3 := hO.grow hk
      go_wp2_with fail
      go_roundw
      case rel => exact ⟨k + 1, by go_num, by omega, HNO, hO3⟩
      case measure => simp [intOf]; omega
    | false =>
     simp only [Bool.false_and, Bool.or_false] at hstep
     have HNO := Lib.hid hstep
     clear hstep hno
     go_wp2
     apply wp_region_lex
     case hFl => intro u; simp only [List.map, fill, Act.put, List.setIfInBounds_toArray, List.set_cons_zero, List.set_cons_succ, Nat.reduceAdd, Nat.zero_add]; rfl
     case hm => kernel_rfl
     case hB => kernel_rfl
     case hap => kernel_rfl
     repeat (first | (apply Lex.is; · (intro u w' hk hd; simp [Waited, Region.binds, Is] at hd; refine looked_want ?_ ?_; (· (first | rfl | (simp [Region.wanted, yielded, hd]; done))); intro K hK; have hO2 := hO.grow hk; have hB2 := hO2.below; have hca := hO2.b0.cell; have hcb := hO2.b1.cell; have m0 := k0 _ hB2; have m1 := k1 _ hB2; have m2 := k2 _ hB2; have m3 := k3 _ hB2; go_wp2_with (fail); (try simp only [hd] at hK); refine hK _ _ ?_ rfl; first | exact Below.refl _ _ | exact hb3)) | (refine Lex.is (c := undef) ?_ ?_; · (intro u w' hk hd; simp [Waited, Region.binds, Is] at hd; refine looked_skip ?_ rfl; first | (simp [Region.wanted, yielded, hd]; done) | (simp [Region.wanted, yielded, hd, undef]; done))))
     apply Lex.nil
     intro u w' hk hd
     simp only [List.nil_append, List.cons_append] at hd
     have hlast := hd 33 _ rfl
     simp only [Is] at hlast
     clear hd
     simp only [hlast]
     clear hlast
     have hO3 := hO.grow hk
     go_wp2_with fail
     go_roundw
     case rel => exact ⟨k + 1, by go_num, by omega, HNO, hO3⟩
     case measure => simp [intOf]; omega
  ·
   obtain rfl : k = n := by omega
   have hfin := hno.out
   rw [List.take_of_length_le (by rw [HN.out]; exact Nat.le_refl _)] at hfin
   have HF := Lib.hid hfin
   clear hfin hno
   have hdc : decide ((k : Int) < (k : Int)) = false := by simp
   go_wp2_with fail
   go_ret
   exact ⟨by simp [HF.out], hO.below⟩
section
variable {w : World} {t : Tp} {m : TpM}
theorem redge_m (h : TpIs w t m) (e : Int) (W : World) : Calls Tryz.prog 167 #[.agg m.cells, .int .i64 e] W fun r w' => r = .returned (.bool (thereT t e)) ∧ Below W.heap.size W w' := by
 rw [← h.cells]
 exact redge_k t m.v e W
theorem rend_m (h : TpIs w t m) (x : En) (W : World) : Calls Tryz.prog 165 #[.agg m.cells, enV x] W fun r w' => r = .returned (.bool (endT t x)) ∧ Below W.heap.size W w' := by
 rw [← h.cells]
 exact rend_k t m.v x W
end
set_option maxRecDepth 8000 in
set_option maxHeartbeats 4000000 in
theorem rmay_m {w : World} {t : Tp} {m : TpM} (h : TpIs w t m) (a b : St) : Calls Tryz.prog 169 #[.agg m.cells, stV a, stV b] w fun r w' => r = .returned (.bool (mayT t a b)) ∧ Below w.heap.size w w' := by
 have hj := fun W (hW : Below w.heap.size w W) => rjoined_k m.A2 m.n2 m.c2 t.joints (leavesT a) (entersT b) W (h.lies.joints.below hW) h.e2 h.l2
 have hl := fun W => rout_k a W
 have he := fun W => rin_k b W
 unfold mayT
 generalize joinsT t.joints (leavesT a) (entersT b) = r at hj ⊢
 generalize leavesT a = la at *
 generalize entersT b = eb at *
 obtain ⟨a1, a2⟩ := a
 obtain ⟨b1, b2⟩ := b
 obtain ⟨l1, l2⟩ := la
 obtain ⟨e1, e2⟩ := eb
 simp only [stV, enV] at hj hl he ⊢
 unfold TpM.cells
 have hO : Own w _ [_, _, _] := Own.start3 w 27 95 95 #[.slice m.A1 m.n1 m.c1, .slice m.A2 m.n2 m.c2, .slice m.A3 m.n3 m.c3, .slice m.A4 m.n4 m.c4] #[.int .i64 a1, .bool a2] #[.int .i64 b1, .bool b2]
 go_enter Tryz.func169, Tryz.ntmps169
 go_wp2_with fail
 apply wp_region_lex
 case hFl => intro u; simp only [List.map, fill, Act.put, List.setIfInBounds_toArray, List.set_cons_zero, List.set_cons_succ, Nat.reduceAdd, Nat.zero_add]; rfl
 case hm => kernel_rfl
 case hB => kernel_rfl
 case hap => kernel_rfl
 repeat (first | (apply Lex.is; · (intro u w' hk hd; simp [Waited, Region.binds, Is] at hd; refine looked_want ?_ ?_; (· (first | rfl | (simp [Region.wanted, yielded, hd]; done))); intro K hK; have hO2 := hO.grow hk; have hc0 := hO2.b0.cell; have hc1 := hO2.b1.cell; have hc2 := hO2.b2.cell; go_wp2_with (first | (go_at_call 228; (with_reducible refine (hl _).mono ?_); rintro e w3 ⟨rfl, hb3⟩) | (go_at_call 229; (with_reducible refine (he _).mono ?_); rintro e w3 ⟨rfl, hb3⟩) | (go_at_call 166; (with_reducible refine (hj _ hO2.below).mono ?_); rintro e w3 ⟨rfl, hb3⟩)); (try simp only [hd] at hK); refine hK _ _ ?_ rfl; first | exact Below.refl _ _ | exact hb3)) | (refine Lex.is (c := undef) ?_ ?_; · (intro u w' hk hd; simp [Waited, Region.binds, Is] at hd; refine looked_skip ?_ rfl; first | (simp [Region.wanted, yielded, hd]; done) | (simp [Region.wanted, yielded, hd, undef]; done))))
 apply Lex.nil
 intro u w' hk hd
 simp only [List.nil_append, List.cons_append] at hd
 have hlast := hd 7 _ rfl
 simp only [Is] at hlast
 clear hd
 have hO3 := hO.grow hk
 go_wp2_with fail
 go_ret
 exact ⟨by first | exact congrArg Ending.returned hlast | simp [hlast], hO3.below⟩
end Go.Proofs.YtkaggddmhjifjaaGreatDoor
