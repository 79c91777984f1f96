/- Texts in one: DocLen RegionK. -/
import Derived.Test.YtkaggddmhjifjaaGreatDoorK28
import Derived.Test.YtkaggddmhjifjaaGreatDoorK05
set_option linter.unusedSimpArgs false
set_option linter.unusedVariables false
namespace Go.Proofs.YtkaggddmhjifjaaGreatDoor
open Go.RowKit Go.Shelf
theorem way_take (t : Tp) {p : List St} {k : Nat} (h : ∀ j a b, j < k → p[j]? = some a → p[j + 1]? = some b → mayT t a b = true) (hk : p.length ≤ k + 1) : wayT t p = true := (way_iff t p).2 fun j a b h1 h2 => h j a b (by
 have := (List.getElem?_eq_some_iff.1 h2).1
 omega) h1 h2
set_option maxRecDepth 8000 in
set_option maxHeartbeats 8000000 in
theorem rlen_m {w : World} {t : Tp} {m : TpM} (h : TpIs w t m) (A : Option Addr) (n c : Nat) (p : List St) (hp : RowsAt encSt w A p) (hn : p.length = n) (hl : n ≤ 100) : Calls Tryz.prog 114 #[.agg m.cells, .slice A n c] w fun r w' => r = .returned (.tuple #[.int .i64 (lenT t p), .int .i64 (lenE t p)]) ∧ Below w.heap.size w w' := by
 have hO : Own w _ [_] := (Own.nil w).alloc 27 m.cells _ rfl
 have HN := Lib.hid hn
 have hcl := hO.b0.cell
 by_cases hz : n = 0
 ·
  subst hz
  have hp0 : p = [] := List.length_eq_zero_iff.1 hn
  subst hp0
  clear hn
  unfold TpM.cells at *
  go_enter Tryz.func114, Tryz.ntmps114
  go_wp2
  go_ret2
  exact ⟨by simp [lenE, lenT], hO.below⟩
 by_cases h40 : 40 < n
 ·
  have hE : lenE t p = 1 := by
   unfold lenE
   rw [if_pos (by omega)]
  have hT : lenT t p = 0 := by
   unfold lenT
   rw [hE]
   rfl
  have HE := Lib.hid hE
  have HT := Lib.hid hT
  clear hE hT hn
  have e1 : ((n : Int) == 0) = false := by simp; omega
  have e2 : decide (40 < (n : Int)) = true := by simp; omega
  unfold TpM.cells at *
  go_enter Tryz.func114, Tryz.ntmps114
  go_wp2
  go_ret2
  exact ⟨by simp [HE.out, HT.out], hO.below⟩
 clear hn
 have e1 : ((n : Int) == 0) = false := by simp; omega
 have e2 : decide (40 < (n : Int)) = false := by simp; omega
 unfold TpM.cells at *
 go_enter Tryz.func114, Tryz.ntmps114
 go_wp2
 go_loopw [6, 7] (fun s i wr => ∃ k : Nat, i = .int .i64 k ∧ k ≤ n ∧ s = .int .i64 (sumT t (p.take k)) ∧ Hid (∀ (j : Nat) (s : St), j < k → p[j]? = some s → thereT t s.edge = true) ∧ Own w wr [(w.heap.size, 27, #[.slice m.A1 m.n1 m.c1, .slice m.A2 m.n2 m.c2, .slice m.A3 m.n3 m.c3, .slice m.A4 m.n4 m.c4])]) (fun _ i _ => n - (intOf i).toNat)
 case atStart => exact ⟨0, rfl, Nat.zero_le _, rfl, Lib.hid (fun j a hj => by omega), hO⟩
 case round =>
  clear hO hcl
  obtain ⟨k, rfl, hk, rfl, hall, hO⟩ := hrel
  by_cases hlt : k < n
  ·
   have hdc : decide ((k : Int) < (n : Int)) = true := by simpa using hlt
   obtain ⟨s, hs⟩ := get_some HN.out hlt
   obtain ⟨g, off, rfl, hg, a0, a1⟩ := hp.st hs
   have ka0 := fun W (hW : Below w.heap.size w W) => (hW.cell (p := ⟨g, off + k * 2, none⟩) hg).trans a0
   have hm := fun W => redge_m h s.edge W
   have HS := Lib.hid hs
   have HX := Lib.hid (sum_snoc t hs)
   clear a0 a1
   cases hr : thereT t s.edge with
   | false =>
    have HR := Lib.hid (len_bad hs hr)
    rw [hr] at hm
    clear hs hr
    obtain ⟨x1, x2⟩ := s
    simp only [TpM.cells] at hm ka0
    generalize sumT t (p.take k) = sm at *
    go_wp2
    apply wp_region_lex
    case hFl => intro u; simp only [List.map, fill, Act.put, List.setIfInBounds_toArray, List.set_cons_zero, List.set_cons_succ, Nat.reduceAdd, Nat.zero_add]; rfl
    case hm => kernel_rfl
    case hB => kernel_rfl
    case hap => kernel_rfl
    repeat (first | (apply Lex.is; · (intro u w' hk hd; simp [Waited, Region.binds, Is] at hd; refine looked_want ?_ ?_; (· (first | rfl | (simp [Region.wanted, yielded, hd]; done))); intro K hK; have hO2 := hO.grow hk; have hca := hO2.b0.cell; have m0 := ka0 _ hO2.below; go_wp2_with (go_at_call 167; (with_reducible refine (hm _).mono ?_); rintro e w3 ⟨rfl, hb3⟩); (try simp only [hd] at hK); refine hK _ _ ?_ rfl; first | exact Below.refl _ _ | exact hb3)) | (refine Lex.is (c := undef) ?_ ?_; · (intro u w' hk hd; simp [Waited, Region.binds, Is] at hd; refine looked_skip ?_ rfl; first | (simp [Region.wanted, yielded, hd]; done) | (simp [Region.wanted, yielded, hd, undef]; done))))
    apply Lex.nil
    intro u w' hk hd
    simp only [List.nil_append, List.cons_append] at hd
    have hlast := hd 7 _ rfl
    simp only [Is] at hlast
    clear hd
    simp only [hlast]
    clear hlast
    have hB3 := (hO.grow hk).below
    go_wp2_with fail
    go_ret2
    exact ⟨by simp [HR.out, lenT], hB3⟩
   | true =>
    rw [hr] at hm
    obtain ⟨i, hi, hil, hie⟩ := there_int hr
    obtain ⟨ge, offe, hge, hgb, c0⟩ := h.lies.edges.int hil
    have ke0 := fun W (hW : Below w.heap.size w W) => (hW.cell (p := ⟨ge, offe + i, none⟩) hgb).trans c0
    have hi1 := h.e1
    have hin : i < m.n1 := by omega
    have hall' := Lib.hid (fun j s' (hj : j < k + 1) (h1 : p[j]? = some s') => show thereT t s'.edge = true by
     rcases Nat.lt_or_ge j k with g | g
     ·
      exact hall.out j s' g h1
     ·
      obtain rfl : j = k := by omega
      rw [HS.out] at h1
      cases h1
      exact hr)
    rw [hie] at HX
    generalize t.edges[i]! = ev at *
    clear hs hr hie hil c0 hi1 hall
    obtain ⟨x1, x2⟩ := s
    simp only at hi
    subst hi
    generalize sumT t (p.take k) = sm at *
    simp only [TpM.cells, hge] at hm ka0 hO ⊢
    go_wp2
    apply wp_region_lex
    case hFl => intro u; simp only [List.map, fill, Act.put, List.setIfInBounds_toArray, List.set_cons_zero, List.set_cons_succ, Nat.reduceAdd, Nat.zero_add]; rfl
    case hm => kernel_rfl
    case hB => kernel_rfl
    case hap => kernel_rfl
    repeat (first | (apply Lex.is; · (intro u w' hk hd; simp [Waited, Region.binds, Is] at hd; refine looked_want ?_ ?_; (· (first | rfl | (simp [Region.wanted, yielded, hd]; done))); intro K hK; have hO2 := hO.grow hk; have hca := hO2.b0.cell; have m0 := ka0 _ hO2.below; go_wp2_with (go_at_call 167; (with_reducible refine (hm _).mono ?_); rintro e w3 ⟨rfl, hb3⟩); (try simp only [hd] at hK); refine hK _ _ ?_ rfl; first | exact Below.refl _ _ | exact hb3)) | (refine Lex.is (c := undef) ?_ ?_; · (intro u w' hk hd; simp [Waited, Region.binds, Is] at hd; refine looked_skip ?_ rfl; first | (simp [Region.wanted, yielded, hd]; done) | (simp [Region.wanted, yielded, hd, undef]; done))))
    apply Lex.nil
    intro u w' hk hd
    simp only [List.nil_append, List.cons_append] at hd
    have hlast := hd 7 _ rfl
    simp only [Is] at hlast
    clear hd
    simp only [hlast]
    clear hlast
    replace hO := hO.grow hk
    clear hk hm
    go_wp2_with fail
    apply wp_region_lextf (Below (w').heap.size) (fun W => below_drewN (Below.refl _ _) 1) (fun _ _ _ h1 h2 => h1.trans h2) (fun _ => Below (w').heap.size) (fun _ _ _ h => h) (fun _ _ => True) (fun _ => trivial) (fun _ _ _ _ _ _ _ => trivial)
    case hFl =>
     intro u
     simp only [List.map, List.dropLast, fill, Act.put, List.setIfInBounds_toArray, List.set_cons_zero, List.set_cons_succ, Nat.reduceAdd, Nat.zero_add]
     rfl
    case hm => kernel_rfl
    case hB => kernel_rfl
    case hA => kernel_rfl
    case hap => kernel_rfl
    repeat (first
     |(
       apply LexTL.is
       ·
        (
        intro u w' hk hpre hd
        simp [Waited, Region.binds, Is] at hd
        refine lookedT_want ?_ ?_
        ·
         first
         | rfl
         |(simp [Region.wanted, yielded, hd]; done)
        intro K hK
        have hO2 := hO.grow hk; have hca := hO2.b0.cell; have m0 := ka0 _ hO2.below; have m1 := ke0 _ hO2.below
        go_wp2_with (fail)
        try simp only [hd] at hK
        refine hK _ _ ?_ rfl
        first | exact Below.refl _ _ | exact hb3.mono hk.size)))
    refine LexTL.last ?_ ?_
    ·
     intro i' j Φ hij _ hj v W W' hΦ ht
     have hm := List.mem_of_getElem? hj
     simp only [List.nil_append, List.cons_append, List.mem_cons, List.not_mem_nil, or_false] at hm
     repeat (first | (rcases hm with rfl | hm; exact hΦ) | (subst hm; exact hΦ))
    intro u w2 hk2 _ hd
    simp only [List.nil_append, List.cons_append] at hd
    refine ⟨rfl, ?_⟩
    intro K hK
    have hlast := hd 10 _ rfl
    simp only [Is] at hlast
    clear hd
    simp only [hlast]
    clear hlast
    have hO3 := hO.grow hk2
    go_wp2_with fail
    go_roundw
    case rel => exact ⟨k + 1, by go_num, by omega, by rw [HX.out], hall', hO3⟩
    case measure => simp [intOf]; omega
  ·
   obtain rfl : k = n := by omega
   have hdc : decide ((k : Int) < (k : Int)) = false := by simp
   have hne : p ≠ [] := by
    rintro rfl
    have := HN.out
    simp at this
    omega
   have hgood := len_good hne (by rw [HN.out]; omega) (fun j s hj => hall.out j s (by
    have := (List.getElem?_eq_some_iff.1 hj).1
    have := HN.out
    omega) hj)
   have hsum : sumT t (p.take k) = sumT t p := by rw [List.take_of_length_le (by rw [HN.out]; exact Nat.le_refl _)]
   rw [hsum]
   have hlenT : lenT t p = if lenE t p = 0 then sumT t p else 0 := rfl
   generalize sumT t p = sm at *
   have HG := Lib.hid (And.intro hgood hlenT)
   clear hgood hlenT hsum hall
   go_wp2_with fail
   clear hdc
   go_loopw [9] (fun i wr => ∃ q : Nat, i = .int .i64 ((q : Int) + 1) ∧ q ≤ k ∧ Hid (∀ j a b, j < q → p[j]? = some a → p[j + 1]? = some b → mayT t a b = true) ∧ Own w wr [(w.heap.size, 27, #[.slice m.A1 m.n1 m.c1, .slice m.A2 m.n2 m.c2, .slice m.A3 m.n3 m.c3, .slice m.A4 m.n4 m.c4])]) (fun i _ => k - (intOf i).toNat)
   case atStart => exact ⟨0, rfl, Nat.zero_le _, Lib.hid (fun j a b hj => by omega), hO⟩
   case round =>
    clear hO
    obtain ⟨q, rfl, hq, hall, hO⟩ := hrel
    by_cases hlt : q + 1 < k
    ·
     have hdc : decide ((q : Int) + 1 < (k : Int)) = true := by simp; omega
     obtain ⟨a, ha⟩ := get_some HN.out (show q < k by omega)
     obtain ⟨b, hb⟩ := get_some HN.out (show q + 1 < k by omega)
     obtain ⟨g, off, rfl, hg, a0, a1⟩ := hp.st ha
     obtain ⟨g', off', e, _, b0, b1⟩ := hp.st hb
     simp only [Option.some.injEq, Addr.mk.injEq] at e
     obtain ⟨rfl, rfl, -⟩ := e
     have ka0 := fun W (hW : Below w.heap.size w W) => (hW.cell (p := ⟨g, off + q * 2, none⟩) hg).trans a0
     have ka1 := fun W (hW : Below w.heap.size w W) => (hW.cell (p := ⟨g, off + q * 2 + 1, none⟩) hg).trans a1
     have kb0 := fun W (hW : Below w.heap.size w W) => (hW.cell (p := ⟨g, off + (q + 1) * 2, none⟩) hg).trans b0
     have kb1 := fun W (hW : Below w.heap.size w W) => (hW.cell (p := ⟨g, off + (q + 1) * 2 + 1, none⟩) hg).trans b1
     have hm := fun W (hW : Below w.heap.size w W) => rmay_m (h.below hW) a b
     have HA := Lib.hid ha
     have HB := Lib.hid hb
     clear ha hb a0 a1 b0 b1
     cases hr : mayT t a b with
     | false =>
      rw [hr] at hm
      have hE : lenE t p = 141 := by
       rw [HG.out.1, way_no HA.out HB.out hr]
       rfl
      have HE := Lib.hid hE
      clear hr hE
      obtain ⟨x1, x2⟩ := a
      obtain ⟨y1, y2⟩ := b
      simp only [stV, TpM.cells] at hm ka0 ka1 kb0 kb1
      go_wp2
      apply wp_region_lex
      case hFl => intro u; simp only [List.map, fill, Act.put, List.setIfInBounds_toArray, List.set_cons_zero, List.set_cons_succ, Nat.reduceAdd, Nat.zero_add]; rfl
      case hm => kernel_rfl
      case hB => kernel_rfl
      case hap => kernel_rfl
      repeat (first | (apply Lex.is; · (intro u w' hk hd; simp [Waited, Region.binds, Is] at hd; refine looked_want ?_ ?_; (· (first | rfl | (simp [Region.wanted, yielded, hd]; done))); intro K hK; have hO2 := hO.grow hk; have hB2 := hO2.below; have hcl := hO2.b0.cell; have m1 := ka0 _ hB2; have m2 := ka1 _ hB2; have m3 := kb0 _ hB2; have m4 := kb1 _ hB2; go_wp2_with (go_at_call 169; (with_reducible refine (hm _ hB2).mono ?_); rintro e w3 ⟨rfl, hb3⟩); (try simp only [hd] at hK); refine hK _ _ ?_ rfl; first | exact Below.refl _ _ | exact hb3)) | (refine Lex.is (c := undef) ?_ ?_; · (intro u w' hk hd; simp [Waited, Region.binds, Is] at hd; refine looked_skip ?_ rfl; first | (simp [Region.wanted, yielded, hd]; done) | (simp [Region.wanted, yielded, hd, undef]; done))))
      apply Lex.nil
      intro u w' hk hd
      simp only [List.nil_append, List.cons_append] at hd
      have hlast := hd 11 _ rfl
      simp only [Is] at hlast
      clear hd
      simp only [hlast]
      clear hlast
      have hB3 := (hO.grow hk).below
      go_wp2_with fail
      go_ret2
      exact ⟨by rw [HG.out.2, HE.out]; rfl, hB3⟩
     | true =>
      rw [hr] at hm
      have hall' := Lib.hid (fun j a' b' (hj : j < q + 1) (h1 : p[j]? = some a') (h2 : p[j + 1]? = some b') => show mayT t a' b' = true by
       rcases Nat.lt_or_ge j q with g | g
       ·
        exact hall.out j a' b' g h1 h2
       ·
        obtain rfl : j = q := by omega
        rw [HA.out] at h1
        rw [HB.out] at h2
        cases h1
        cases h2
        exact hr)
      clear hr hall
      obtain ⟨x1, x2⟩ := a
      obtain ⟨y1, y2⟩ := b
      simp only [stV, TpM.cells] at hm ka0 ka1 kb0 kb1
      go_wp2
      apply wp_region_lex
      case hFl => intro u; simp only [List.map, fill, Act.put, List.setIfInBounds_toArray, List.set_cons_zero, List.set_cons_succ, Nat.reduceAdd, Nat.zero_add]; rfl
      case hm => kernel_rfl
      case hB => kernel_rfl
      case hap => kernel_rfl
      repeat (first | (apply Lex.is; · (intro u w' hk hd; simp [Waited, Region.binds, Is] at hd; refine looked_want ?_ ?_; (· (first | rfl | (simp [Region.wanted, yielded, hd]; done))); intro K hK; have hO2 := hO.grow hk; have hB2 := hO2.below; have hcl := hO2.b0.cell; have m1 := ka0 _ hB2; have m2 := ka1 _ hB2; have m3 := kb0 _ hB2; have m4 := kb1 _ hB2; go_wp2_with (go_at_call 169; (with_reducible refine (hm _ hB2).mono ?_); rintro e w3 ⟨rfl, hb3⟩); (try simp only [hd] at hK); refine hK _ _ ?_ rfl; first | exact Below.refl _ _ | exact hb3)) | (refine Lex.is (c := undef) ?_ ?_; · (intro u w' hk hd; simp [Waited, Region.binds, Is] at hd; refine looked_skip ?_ rfl; first | (simp [Region.wanted, yielded, hd]; done) | (simp [Region.wanted, yielded, hd, undef]; done))))
      apply Lex.nil
      intro u w' hk hd
      simp only [List.nil_append, List.cons_append] at hd
      have hlast := hd 11 _ rfl
      simp only [Is] at hlast
      clear hd
      simp only [hlast]
      clear hlast
      have hO3 := hO.grow hk
      go_wp2_with fail
      go_roundw
      case rel => exact ⟨q + 1, by go_num, by omega, hall', hO3⟩
      case measure => simp [intOf]; omega
    ·
     have hdc : decide ((q : Int) + 1 < (k : Int)) = false := by simp; omega
     have hE : lenE t p = 0 := by
      rw [HG.out.1, way_take t hall.out (by rw [HN.out]; omega)]
      rfl
     have HE := Lib.hid hE
     clear hE
     go_wp2_with fail
     go_ret2
     exact ⟨by rw [HG.out.2, HE.out]; rfl, hO.below⟩
theorem find_step {l : List Bl} {id : Int} {k : Nat} {b : Bl} (h : l[k]? = some b) : (l.drop k).find? (fun b => decide (b.id = id)) = if b.id = id then some b else (l.drop (k + 1)).find? (fun b => decide (b.id = id)) := by
 rw [drop_cons h, List.find?_cons]
 by_cases hb : b.id = id <;> simp [hb]
set_option maxRecDepth 8000 in
set_option maxHeartbeats 8000000 in
theorem rbal_m {w : World} {t : Tp} {m : TpM} (h : TpIs w t m) (id : Int) : Calls Tryz.prog 61 #[.agg m.cells, .int .i64 id] w fun r w' => r = .returned (.tuple #[blV ((balT t id).getD ⟨0, 0, 0⟩), .bool (balT t id).isSome]) ∧ Below w.heap.size w w' := by
 have hO : Own w _ [_, _] := Own.start2 w 27 93 m.cells #[.int .i64 0, .int .i64 0, .int .i64 0]
 have hcl := hO.b0.cell
 have HN := Lib.hid h.e3
 have hl3 := h.l3
 have hB : balT t id = t.bals.find? fun b => decide (b.id = id) := rfl
 generalize balT t id = r at *
 have HB := Lib.hid hB
 clear hB
 unfold TpM.cells at *
 go_enter Tryz.func61, Tryz.ntmps61
 go_wp2
 go_loopw [6] (fun i wr => ∃ k : Nat, i = .int .i64 k ∧ k ≤ m.n3 ∧ Hid (r = (t.bals.drop k).find? fun b => decide (b.id = id)) ∧ Own w wr [(w.heap.size, 27, #[.slice m.A1 m.n1 m.c1, .slice m.A2 m.n2 m.c2, .slice m.A3 m.n3 m.c3, .slice m.A4 m.n4 m.c4]), (w.heap.size + 1, 93, #[.int .i64 0, .int .i64 0, .int .i64 0])]) (fun i _ => m.n3 - (intOf i).toNat)
 case atStart => exact ⟨0, rfl, Nat.zero_le _, Lib.hid (by rw [HB.out]; rfl), hO⟩
 case round =>
  clear hO hcl
  obtain ⟨k, rfl, hk, hr, hO⟩ := hrel
  have hcl := hO.b0.cell
  have hcb := hO.b1.cell
  have hfb := hO.b1.frozen
  by_cases hlt : k < m.n3
  ·
   have hdc : decide ((k : Int) < (m.n3 : Int)) = true := by simpa using hlt
   obtain ⟨b, hb⟩ := get_some HN.out hlt
   obtain ⟨g, off, hA, hg, a0, a1, a2⟩ := h.lies.bals.bl hb
   have k0 := (hO.below.cell (p := ⟨g, off + k * 3, none⟩) hg).trans a0
   have k1 := (hO.below.cell (p := ⟨g, off + k * 3 + 1, none⟩) hg).trans a1
   have k2 := (hO.below.cell (p := ⟨g, off + k * 3 + 2, none⟩) hg).trans a2
   have hst := hr.out.trans (find_step hb)
   clear hb a0 a1 a2 hr
   obtain ⟨y1, y2, y3⟩ := b
   simp only [hA] at hO hcl hst k0 k1 k2 ⊢
   by_cases h1 : y1 = id
   ·
    subst h1
    rw [if_pos rfl] at hst
    have HS := Lib.hid hst
    clear hst
    go_wp2_with (first
     | fail
     |((with_reducible refine own_row1 (#[.int .i64 y1, .int .i64 y2, .int .i64 y3]) hO rfl _ _ rfl rfl rfl (by kernel_rfl) rfl ?_ ?_); (· first | rfl | (simp [Value.oneCell']; done)); intro wR hOR hszR hkR; replace hO := hOR; clear hOR)
     )
    exact bodyPost_ret (results_ct1 Tryz.results61 _ _ _ _ _ _ rfl rfl hO.b1 Tryz.underlying93 rfl (by kernel_rfl)) rfl ⟨by rw [HS.out]; rfl, hO.below⟩
   ·
    rw [if_neg h1] at hst
    have HS := Lib.hid hst
    clear hst
    have f1 : (y1 == id) = false := by simpa using h1
    go_wp2_with fail
    go_roundw
    case rel => exact ⟨k + 1, by go_num, by omega, HS, hO⟩
    case measure => simp [intOf]; omega
  ·
   obtain rfl : k = m.n3 := by omega
   have hdc : decide ((m.n3 : Int) < (m.n3 : Int)) = false := by simp
   have hno : r = none := by
    rw [hr.out, List.drop_of_length_le (by rw [HN.out]; exact Nat.le_refl _)]
    rfl
   have HNO := Lib.hid hno
   clear hr hno
   go_wp2_with (first
    | fail
    |((with_reducible refine own_row1 (#[.int .i64 0, .int .i64 0, .int .i64 0]) hO rfl _ _ rfl rfl rfl (by kernel_rfl) rfl ?_ ?_); (· first | rfl | (simp [Value.oneCell']; done)); intro wR hOR hszR hkR; replace hO := hOR; clear hOR)
    )
   exact bodyPost_ret (results_ct1 Tryz.results61 _ _ _ _ _ _ rfl rfl hO.b1 Tryz.underlying93 rfl (by kernel_rfl)) rfl ⟨by rw [HNO.out]; rfl, hO.below⟩
open Go.RowKit
theorem lookedT_skip {P : Program} {ops : Array Oper} {F : (Nat → Value) → Act} {Q : Exit → Act → World → Prop} {o : Oper} {Φ : Value → World → Prop} {u : Nat → Value} {w : World} {T : World → World → Prop} (hw : Region.wanted o (yielded ops (F u).tmps) = false) (h : Φ undef w) : LookedT P ops F T o Φ Q u w := by
 unfold LookedT
 rw [if_neg (by rw [hw]; exact Bool.false_ne_true)]
 exact h
end Go.Proofs.YtkaggddmhjifjaaGreatDoor
