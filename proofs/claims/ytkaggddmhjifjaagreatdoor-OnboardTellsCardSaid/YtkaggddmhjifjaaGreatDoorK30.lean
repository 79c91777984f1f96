/- Texts in one: DocRoute RegionQ. -/
import Derived.Test.YtkaggddmhjifjaaGreatDoorK29
import Derived.Test.YtkaggddmhjifjaaGreatDoorK09
import Derived.Test.YtkaggddmhjifjaaGreatDoorK04
import Derived.Test.YtkaggddmhjifjaaGreatDoorK01
set_option linter.unusedSimpArgs false
set_option linter.unusedVariables false
namespace Go.Proofs.YtkaggddmhjifjaaGreatDoor
open Go.RowKit Go.Shelf
theorem anyE_take {p : List St} {k : Nat} {s : St} {e : Int} (h : p[k]? = some s) : ((p.take (k + 1)).any fun x => decide (x.edge = e)) = (((p.take k).any fun x => decide (x.edge = e)) || decide (s.edge = e)) := by
 rw [take_snoc' h, List.any_append]
 simp
theorem anyE_mono {p : List St} {k i : Nat} {e : Int} (hk : k ≤ i) (h : ((p.take k).any fun x => decide (x.edge = e)) = true) : ((p.take i).any fun x => decide (x.edge = e)) = true := by
 rw [List.any_eq_true] at h ⊢
 obtain ⟨x, hx, hd⟩ := h
 refine ⟨x, ?_, hd⟩
 have : p.take k = (p.take i).take k := by rw [List.take_take, Nat.min_eq_left hk]
 rw [this] at hx
 exact List.mem_of_mem_take hx
theorem anyB_take {l : List Bl} {k : Nat} {b : Bl} {e : Int} (h : l[k]? = some b) : ((l.take (k + 1)).any fun x => decide (x.edge = e)) = (((l.take k).any fun x => decide (x.edge = e)) || decide (b.edge = e)) := by
 rw [take_snoc' h, List.any_append]
 simp
theorem all_take {p : List St} {q : St → Bool} {k : Nat} {s : St} (h : p[k]? = some s) : (p.take (k + 1)).all q = ((p.take k).all q && q s) := by
 rw [take_snoc' h, List.all_append]
 simp
theorem all_not {p : List St} {q : St → Bool} {k : Nat} {s : St} (h : p[k]? = some s) (hq : q s = false) : p.all q = false := by
 rw [List.all_eq_false]
 exact ⟨s, List.mem_of_getElem? h, by simp [hq]⟩
set_option maxRecDepth 8000 in
set_option maxHeartbeats 16000000 in
theorem rroute_m {w : World} {t : Tp} {m : TpM} (h : TpIs w t m) (r : Rt) (A : Option Addr) (n c : Nat) (hp : RowsAt encSt w A r.path) (hn : r.path.length = n) (hl : n ≤ 100) (hed : ∀ n ∈ t.edges, 1 ≤ n ∧ n ≤ 1000000) : Calls Tryz.prog 168 #[.agg m.cells, .agg #[.int .i64 r.id, .slice A n c, .int .i64 r.gap, .int .i64 r.timer]] w fun e w' => e = .returned (.int .i64 (routedE t r)) ∧ Below w.heap.size w w' := by
 have hO : Own w _ [_, _] := Own.start2 w 27 97 m.cells #[.int .i64 r.id, .slice A n c, .int .i64 r.gap, .int .i64 r.timer]
 have hcl := hO.b0.cell
 have hcr := hO.b1.cell
 have HN := Lib.hid hn
 have hl3 := h.l3
 have hr : routedE t r = if r.id < 1 ∨ n < 1 ∨ 8 < n then 1 else if apartE t [] r.path = false then 1 else if lenE t r.path ≠ 0 then lenE t r.path else if r.gap < 0 ∨ lenT t r.path ≤ r.gap ∨ r.timer < 1 ∨ 1000 < r.timer then 1 else if r.path.all (fun s => t.bals.any fun b => decide (b.edge = s.edge)) then 0 else 4 := by
  rw [← hn]
  rfl
 have hle := fun W (hW : Below w.heap.size w W) => rlen_m (h.below hW) A n c r.path (hp.below hW) hn hl
 have hlb : 0 ≤ lenT t r.path ∧ lenT t r.path ≤ 100000000 := by
  by_cases h0 : lenE t r.path = 0
  ·
   obtain ⟨k1, k2, k3, k4⟩ := len_ok h0
   have := lens_nonneg hed r.path k3
   rw [len_is hed h0]
   omega
  ·
   unfold lenT
   rw [if_neg h0]
   omega
 clear hed
 obtain ⟨id, p, gap, timer⟩ := r
 simp only at hr hp hn hcr hO hcl HN hle hlb ⊢
 have HR := Lib.hid hr
 clear hr hn
 unfold TpM.cells at *
 by_cases h1 : id < 1
 ·
  have hbad : id < 1 ∨ n < 1 ∨ 8 < n := .inl h1
  have e1 : decide (id < 1) = true := by simpa using h1
  have HR' := HR.out
  rw [if_pos hbad] at HR'
  replace HR := Lib.hid HR'
  clear HR'
  go_enter Tryz.func168, Tryz.ntmps168
  go_wp2
  go_ret
  exact ⟨by simp [HR.out], hO.below⟩
 have e1 : decide (id < 1) = false := by simpa using h1
 by_cases h2 : n < 1
 ·
  have hbad : id < 1 ∨ n < 1 ∨ 8 < n := .inr (.inl h2)
  have e2 : ((n : Int) == 0) = true := by simp; omega
  have HR' := HR.out
  rw [if_pos hbad] at HR'
  replace HR := Lib.hid HR'
  clear HR'
  go_enter Tryz.func168, Tryz.ntmps168
  go_wp2
  go_ret
  exact ⟨by simp [HR.out], hO.below⟩
 have e2 : ((n : Int) == 0) = false := by simp; omega
 by_cases h3 : 8 < n
 ·
  have hbad : id < 1 ∨ n < 1 ∨ 8 < n := .inr (.inr h3)
  have e3 : decide (8 < (n : Int)) = true := by simp; omega
  have HR' := HR.out
  rw [if_pos hbad] at HR'
  replace HR := Lib.hid HR'
  clear HR'
  go_enter Tryz.func168, Tryz.ntmps168
  go_wp2
  go_ret
  exact ⟨by simp [HR.out], hO.below⟩
 have e3 : decide (8 < (n : Int)) = false := by simp; omega
 have HR' := HR.out
 rw [if_neg (by omega)] at HR'
 replace HR := Lib.hid HR'
 clear HR'
 go_enter Tryz.func168, Tryz.ntmps168
 go_wp2
 go_loopw [5] (fun i wr => ∃ k : Nat, i = .int .i64 k ∧ k ≤ n ∧ Hid (apartE t [] p = apartE t (p.take k) (p.drop k)) ∧ Own w wr [(w.heap.size, 27, #[.slice m.A1 m.n1 m.c1, .slice m.A2 m.n2 m.c2, .slice m.A3 m.n3 m.c3, .slice m.A4 m.n4 m.c4]), (w.heap.size + 1, 97, #[.int .i64 id, .slice A n c, .int .i64 gap, .int .i64 timer])]) (fun i _ => n - (intOf i).toNat)
 case atStart => exact ⟨0, rfl, Nat.zero_le _, Lib.hid (by simp), hO⟩
 case round =>
  clear hO hcl hcr e1 e2 e3
  obtain ⟨i, rfl, hi, hap, hO⟩ := hrel
  by_cases hlt : i < n
  ·
   have hdc : decide ((i : Int) < (n : Int)) = true := by simpa using hlt
   obtain ⟨s, hs⟩ := get_some HN.out hlt
   obtain ⟨g, off, rfl, hg, a0, a1⟩ := hp.st hs
   have ka0 := fun W (hW : Below w.heap.size w W) => (hW.cell (p := ⟨g, off + i * 2, none⟩) hg).trans a0
   have hm := fun W => redge_m h s.edge W
   have hstep := apart_step (t := t) hs
   rw [← hap.out] at hstep
   have hdec : (List.take i p).any (fun x => decide (x.edge = s.edge)) = true → apartE t [] p = false := fun h => by rw [hstep, h]; simp
   obtain ⟨se, sr⟩ := s
   simp only [TpM.cells] at hm ka0 hstep hdec
   have hca := hO.b0.cell
   have hcb := hO.b1.cell
   clear hs a0 a1
   cases hth : thereT t se with
   | false =>
    rw [hth] at hm hstep
    have HR' := HR.out
    rw [if_pos (by rw [hstep]; rfl)] at HR'
    replace HR := Lib.hid HR'
    clear HR' hstep hdec hth hle
    go_wp2
    apply wp_region_lex
    case hFl => intro u; simp only [List.map, fill, Act.put, List.setIfInBounds_toArray, List.set_cons_zero, List.set_cons_succ, Nat.reduceAdd, Nat.zero_add]; rfl
    case hm => kernel_rfl
    case hB => kernel_rfl
    case hap => kernel_rfl
    repeat (first | (apply Lex.is; · (intro u w' hk hd; simp [Waited, Region.binds, Is] at hd; refine looked_want ?_ ?_; (· (first | rfl | (simp [Region.wanted, yielded, hd]; done))); intro K hK; have hO2 := hO.grow hk; have hca := hO2.b0.cell; have hcb := hO2.b1.cell; have m0 := ka0 _ hO2.below; go_wp2_with (go_at_call 167; (with_reducible refine (hm _).mono ?_); rintro e w3 ⟨rfl, hb3⟩); (try simp only [hd] at hK); refine hK _ _ ?_ rfl; first | exact Below.refl _ _ | exact hb3)) | (refine Lex.is (c := undef) ?_ ?_; · (intro u w' hk hd; simp [Waited, Region.binds, Is] at hd; refine looked_skip ?_ rfl; first | (simp [Region.wanted, yielded, hd]; done) | (simp [Region.wanted, yielded, hd, undef]; done))))
    apply Lex.nil
    intro u w' hk hd
    simp only [List.nil_append, List.cons_append] at hd
    have hlast := hd 8 _ rfl
    simp only [Is] at hlast
    clear hd
    simp only [hlast]
    clear hlast
    have hB3 := (hO.grow hk).below
    go_wp2_with fail
    go_ret
    exact ⟨by simp [HR.out], hB3⟩
   | true =>
    rw [hth, Bool.true_and] at hstep
    rw [hth] at hm
    have HSP := Lib.hid hstep
    have HDC := Lib.hid hdec
    clear hstep hdec hth hle hap
    go_wp2
    apply wp_region_lex
    case hFl => intro u; simp only [List.map, fill, Act.put, List.setIfInBounds_toArray, List.set_cons_zero, List.set_cons_succ, Nat.reduceAdd, Nat.zero_add]; rfl
    case hm => kernel_rfl
    case hB => kernel_rfl
    case hap => kernel_rfl
    repeat (first | (apply Lex.is; · (intro u w' hk hd; simp [Waited, Region.binds, Is] at hd; refine looked_want ?_ ?_; (· (first | rfl | (simp [Region.wanted, yielded, hd]; done))); intro K hK; have hO2 := hO.grow hk; have hca := hO2.b0.cell; have hcb := hO2.b1.cell; have m0 := ka0 _ hO2.below; go_wp2_with (go_at_call 167; (with_reducible refine (hm _).mono ?_); rintro e w3 ⟨rfl, hb3⟩); (try simp only [hd] at hK); refine hK _ _ ?_ rfl; first | exact Below.refl _ _ | exact hb3)) | (refine Lex.is (c := undef) ?_ ?_; · (intro u w' hk hd; simp [Waited, Region.binds, Is] at hd; refine looked_skip ?_ rfl; first | (simp [Region.wanted, yielded, hd]; done) | (simp [Region.wanted, yielded, hd, undef]; done))))
    apply Lex.nil
    intro u w' hk hd
    simp only [List.nil_append, List.cons_append] at hd
    have hlast := hd 8 _ rfl
    simp only [Is] at hlast
    clear hd
    simp only [hlast]
    clear hlast hca hcb
    replace hO := hO.grow hk
    clear hk hm
    go_wp2_with fail
    clear hdc
    go_loopw [7] (fun k wr => ∃ q : Nat, k = .int .i64 q ∧ q ≤ i ∧ Hid (((p.take q).any fun x => decide (x.edge = se)) = false) ∧ Own w wr [(w.heap.size, 27, #[.slice m.A1 m.n1 m.c1, .slice m.A2 m.n2 m.c2, .slice m.A3 m.n3 m.c3, .slice m.A4 m.n4 m.c4]), (w.heap.size + 1, 97, #[.int .i64 id, .slice (some ⟨g, off, none⟩) n c, .int .i64 gap, .int .i64 timer])]) (fun k _ => i - (intOf k).toNat)
    case atStart => exact ⟨0, rfl, Nat.zero_le _, Lib.hid rfl, hO⟩
    case round =>
     clear hO
     obtain ⟨q, rfl, hq, hov, hO⟩ := hrel
     by_cases hlt2 : q < i
     ·
      have hdc2 : decide ((q : Int) < (i : Int)) = true := by simpa using hlt2
      obtain ⟨x, hx⟩ := get_some HN.out (show q < n by omega)
      obtain ⟨g', off', e, _, b0, _⟩ := hp.st hx
      simp only [Option.some.injEq, Addr.mk.injEq] at e
      obtain ⟨rfl, rfl, -⟩ := e
      have kb0 := fun W (hW : Below w.heap.size w W) => (hW.cell (p := ⟨g, off + q * 2, none⟩) hg).trans b0
      have hov2 := anyE_take (e := se) hx
      rw [hov.out, Bool.false_or] at hov2
      obtain ⟨x1, x2⟩ := x
      simp only at hov2 kb0
      clear hx b0 hov
      by_cases h1 : x1 = se
      ·
       have f1 : (x1 == se) = true := by simpa using h1
       rw [decide_eq_true h1] at hov2
       have HR' := HR.out
       rw [if_pos (HDC.out (anyE_mono (by omega) hov2))] at HR'
       replace HR := Lib.hid HR'
       clear HR' hov2 h1
       go_wp2_with fail
       apply wp_region_lex
       case hFl => intro u; simp only [List.map, fill, Act.put, List.setIfInBounds_toArray, List.set_cons_zero, List.set_cons_succ, Nat.reduceAdd, Nat.zero_add]; rfl
       case hm => kernel_rfl
       case hB => kernel_rfl
       case hap => kernel_rfl
       repeat (first | (apply Lex.is; · (intro u w' hk hd; simp [Waited, Region.binds, Is] at hd; refine looked_want ?_ ?_; (· (first | rfl | (simp [Region.wanted, yielded, hd]; done))); intro K hK; have hO2 := hO.grow hk; have hca := hO2.b0.cell; have hcb := hO2.b1.cell; have m0 := ka0 _ hO2.below; have m1 := kb0 _ hO2.below; go_wp2_with (fail); (try simp only [hd] at hK); refine hK _ _ ?_ rfl; first | exact Below.refl _ _ | exact hb3)) | (refine Lex.is (c := undef) ?_ ?_; · (intro u w' hk hd; simp [Waited, Region.binds, Is] at hd; refine looked_skip ?_ rfl; first | (simp [Region.wanted, yielded, hd]; done) | (simp [Region.wanted, yielded, hd, undef]; done))))
       apply Lex.nil
       intro u w' hk hd
       simp only [List.nil_append, List.cons_append] at hd
       have hlast := hd 12 _ rfl
       simp only [Is] at hlast
       clear hd
       simp only [hlast]
       clear hlast
       have hB3 := (hO.grow hk).below
       go_wp2_with fail
       go_ret
       exact ⟨by simp [HR.out], hB3⟩
      ·
       have f1 : (x1 == se) = false := by simpa using h1
       rw [decide_eq_false h1] at hov2
       have HOV := Lib.hid hov2
       clear hov2 h1
       go_wp2_with fail
       apply wp_region_lex
       case hFl => intro u; simp only [List.map, fill, Act.put, List.setIfInBounds_toArray, List.set_cons_zero, List.set_cons_succ, Nat.reduceAdd, Nat.zero_add]; rfl
       case hm => kernel_rfl
       case hB => kernel_rfl
       case hap => kernel_rfl
       repeat (first | (apply Lex.is; · (intro u w' hk hd; simp [Waited, Region.binds, Is] at hd; refine looked_want ?_ ?_; (· (first | rfl | (simp [Region.wanted, yielded, hd]; done))); intro K hK; have hO2 := hO.grow hk; have hca := hO2.b0.cell; have hcb := hO2.b1.cell; have m0 := ka0 _ hO2.below; have m1 := kb0 _ hO2.below; go_wp2_with (fail); (try simp only [hd] at hK); refine hK _ _ ?_ rfl; first | exact Below.refl _ _ | exact hb3)) | (refine Lex.is (c := undef) ?_ ?_; · (intro u w' hk hd; simp [Waited, Region.binds, Is] at hd; refine looked_skip ?_ rfl; first | (simp [Region.wanted, yielded, hd]; done) | (simp [Region.wanted, yielded, hd, undef]; done))))
       apply Lex.nil
       intro u w' hk hd
       simp only [List.nil_append, List.cons_append] at hd
       have hlast := hd 12 _ rfl
       simp only [Is] at hlast
       clear hd
       simp only [hlast]
       clear hlast
       have hO3 := hO.grow hk
       go_wp2_with fail
       go_roundw
       case rel => exact ⟨q + 1, by go_num, by omega, HOV, hO3⟩
       case measure => simp [intOf]; omega
     ·
      obtain rfl : q = i := by omega
      have hdc2 : decide ((q : Int) < (q : Int)) = false := by simp
      have hst2 : apartE t [] p = apartE t (p.take (q + 1)) (p.drop (q + 1)) := by rw [HSP.out, hov.out]; simp
      have HST := Lib.hid hst2
      clear hst2 hov
      go_wp2_with fail
      go_roundw
      case rel => exact ⟨q + 1, by go_num, by omega, HST, hO⟩
      case measure => simp [intOf]; omega
  ·
   obtain rfl : i = n := by omega
   have hdc : decide ((i : Int) < (i : Int)) = false := by simp
   have hok : apartE t [] p = true := by
    rw [hap.out, List.drop_of_length_le (by rw [HN.out]; exact Nat.le_refl _)]
    rfl
   have HR' := HR.out
   rw [if_neg (by rw [hok]; simp)] at HR'
   replace HR := Lib.hid HR'
   clear HR' hap hok
   generalize lenE t p = le at *
   generalize lenT t p = lt at *
   have hcl := hO.b0.cell
   have hcr := hO.b1.cell
   by_cases hl0 : le = 0
   ·
    subst hl0
    have HR' := HR.out
    rw [if_neg (by simp)] at HR'
    replace HR := Lib.hid HR'
    clear HR'
    by_cases h4 : gap < 0 ∨ lt ≤ gap ∨ timer < 1 ∨ 1000 < timer
    ·
     have HR' := HR.out
     rw [if_pos h4] at HR'
     replace HR := Lib.hid HR'
     clear HR'
     by_cases g1 : gap < 0
     ·
      have f1 : decide (gap < 0) = true := by simpa using g1
      go_wp2_with (first
       |(go_at_call 114; (with_reducible refine (hle _ hO.below).mono ?_); rintro e w1 ⟨rfl, hb1⟩; replace hO := hO.grow hb1; have hcl1 := hO.b0.cell; have hcr1 := hO.b1.cell))
      go_ret
      exact ⟨by simp [HR.out], hO.below⟩
     have f1 : decide (gap < 0) = false := by simpa using g1
     by_cases g2 : lt ≤ gap
     ·
      have f2 : decide (lt - 1 < gap) = true := by simp; omega
      go_wp2_with (first
       |(go_at_call 114; (with_reducible refine (hle _ hO.below).mono ?_); rintro e w1 ⟨rfl, hb1⟩; replace hO := hO.grow hb1; have hcl1 := hO.b0.cell; have hcr1 := hO.b1.cell))
      go_ret
      exact ⟨by simp [HR.out], hO.below⟩
     have f2 : decide (lt - 1 < gap) = false := by simp; omega
     by_cases g3 : timer < 1
     ·
      have f3 : decide (timer < 1) = true := by simpa using g3
      go_wp2_with (first
       |(go_at_call 114; (with_reducible refine (hle _ hO.below).mono ?_); rintro e w1 ⟨rfl, hb1⟩; replace hO := hO.grow hb1; have hcl1 := hO.b0.cell; have hcr1 := hO.b1.cell))
      go_ret
      exact ⟨by simp [HR.out], hO.below⟩
     have f3 : decide (timer < 1) = false := by simpa using g3
     have f4 : decide (1000 < timer) = true := by simp; omega
     go_wp2_with (first
      |(go_at_call 114; (with_reducible refine (hle _ hO.below).mono ?_); rintro e w1 ⟨rfl, hb1⟩; replace hO := hO.grow hb1; have hcl1 := hO.b0.cell; have hcr1 := hO.b1.cell))
     go_ret
     exact ⟨by simp [HR.out], hO.below⟩
    ·
     have HR' := HR.out
     rw [if_neg h4] at HR'
     replace HR := Lib.hid HR'
     clear HR'
     have f1 : decide (gap < 0) = false := by simp; omega
     have f2 : decide (lt - 1 < gap) = false := by simp; omega
     have f3 : decide (timer < 1) = false := by simp; omega
     have f4 : decide (1000 < timer) = false := by simp; omega
     go_wp2_with (first
      |(go_at_call 114; (with_reducible refine (hle _ hO.below).mono ?_); rintro e w1 ⟨rfl, hb1⟩; replace hO := hO.grow hb1; have hcl1 := hO.b0.cell; have hcr1 := hO.b1.cell))
     clear hcl hcr hcl1 hcr1 hle f1 f2 f3 f4 h4 hlb hdc h1 h2 h3
     go_loopw [10] (fun x wr => ∃ k : Nat, x = .int .i64 k ∧ k ≤ i ∧ Hid ((p.take k).all (fun s => t.bals.any fun b => decide (b.edge = s.edge)) = true) ∧ Own w wr [(w.heap.size, 27, #[.slice m.A1 m.n1 m.c1, .slice m.A2 m.n2 m.c2, .slice m.A3 m.n3 m.c3, .slice m.A4 m.n4 m.c4]), (w.heap.size + 1, 97, #[.int .i64 id, .slice A i c, .int .i64 gap, .int .i64 timer])]) (fun x _ => i - (intOf x).toNat)
     case atStart => exact ⟨0, rfl, Nat.zero_le _, Lib.hid rfl, hO⟩
     case round =>
      clear hO
      obtain ⟨k, rfl, hk, hall, hO⟩ := hrel
      by_cases hlt : k < i
      ·
       have hdc : decide ((k : Int) < (i : Int)) = true := by simpa using hlt
       obtain ⟨s, hs⟩ := get_some HN.out hlt
       obtain ⟨g, off, rfl, hg, a0, a1⟩ := hp.st hs
       have ka0 := fun W (hW : Below w.heap.size w W) => (hW.cell (p := ⟨g, off + k * 2, none⟩) hg).trans a0
       have hst := all_take (q := fun s => t.bals.any fun b => decide (b.edge = s.edge)) hs
       rw [hall.out, Bool.true_and] at hst
       have hnt := all_not (q := fun s => t.bals.any fun b => decide (b.edge = s.edge)) hs
       obtain ⟨se, sr⟩ := s
       simp only at hst hnt ka0
       have HST := Lib.hid hst
       have HNT := Lib.hid hnt
       have hca := hO.b0.cell
       have hcb := hO.b1.cell
       clear hs a0 a1 hst hnt hall
       go_wp2_with fail
       clear hdc hca hcb
       go_loopw [11, 12] (fun b x wr => ∃ q : Nat, x = .int .i64 q ∧ q ≤ m.n3 ∧ b = .bool ((t.bals.take q).any fun b => decide (b.edge = se)) ∧ Own w wr [(w.heap.size, 27, #[.slice m.A1 m.n1 m.c1, .slice m.A2 m.n2 m.c2, .slice m.A3 m.n3 m.c3, .slice m.A4 m.n4 m.c4]), (w.heap.size + 1, 97, #[.int .i64 id, .slice (some ⟨g, off, none⟩) i c, .int .i64 gap, .int .i64 timer])]) (fun _ x _ => m.n3 - (intOf x).toNat)
       case atStart => exact ⟨0, rfl, Nat.zero_le _, rfl, hO⟩
       case round =>
        clear hO
        obtain ⟨q, rfl, hq, rfl, hO⟩ := hrel
        by_cases hlt2 : q < m.n3
        ·
         obtain ⟨y, hy⟩ := get_some h.e3 hlt2
         obtain ⟨gb, offb, hA3, hgb, _, b1, _⟩ := h.lies.bals.bl hy
         have kb1 := fun W (hW : Below w.heap.size w W) => (hW.cell (p := ⟨gb, offb + q * 3 + 1, none⟩) hgb).trans b1
         have hst2 := anyB_take (e := se) hy
         obtain ⟨y1, y2, y3⟩ := y
         simp only at hst2 kb1
         have HS2 := Lib.hid hst2
         have hdc2 : decide ((q : Int) < (m.n3 : Int)) = true := by simpa using hlt2
         have hca := hO.b0.cell
         simp only [hA3] at hO hca ⊢
         clear hy b1 hst2
         generalize (t.bals.take q).any (fun b => decide (b.edge = se)) = has at *
         cases has with
         | true =>
          go_wp2_with fail
          clear hca
          apply wp_region_lextf (Below (wr).heap.size) (fun W => below_drewN (Below.refl _ _) 1) (fun _ _ _ h1 h2 => h1.trans h2) (fun _ => Below (wr).heap.size) (fun _ _ _ h => h) (fun _ _ => True) (fun _ => trivial) (fun _ _ _ _ _ _ _ => trivial)
          case hFl =>
           intro u
           simp only [List.map, List.dropLast, fill, Act.put, List.setIfInBounds_toArray, List.set_cons_zero, List.set_cons_succ, Nat.reduceAdd, Nat.zero_add]
           rfl
          case hm => kernel_rfl
          case hB => kernel_rfl
          case hA => kernel_rfl
          case hap => kernel_rfl
          repeat (first
           |(
             apply LexTL.is
             ·
              (
              intro u w' hk hpre hd
              simp [Waited, Region.binds, Is] at hd
              refine lookedT_want ?_ ?_
              ·
               first
               | rfl
               |(simp [Region.wanted, yielded, hd]; done)
              intro K hK
              have hO2 := hO.grow hk; have hca := hO2.b0.cell; have hcb := hO2.b1.cell; have m0 := ka0 _ hO2.below; have m1 := kb1 _ hO2.below
              go_wp2_with (fail)
              try simp only [hd] at hK
              refine hK _ _ ?_ rfl
              first | exact Below.refl _ _ | exact hb3.mono hk.size))
           |(
             refine LexTL.is (c := undef) ?_ ?_
             ·
              (
              intro u w' hk hpre hd
              simp [Waited, Region.binds, Is] at hd
              refine lookedT_skip ?_ rfl
              first
              |(simp [Region.wanted, yielded, hd]; done)
              |(simp [Region.wanted, yielded, hd, undef]; done))))
          refine LexTL.last ?_ ?_
          ·
           intro i' j Φ hij _ hj v W W' hΦ ht
           have hm := List.mem_of_getElem? hj
           simp only [List.nil_append, List.cons_append, List.mem_cons, List.not_mem_nil, or_false] at hm
           repeat (first | (rcases hm with rfl | hm; exact hΦ) | (subst hm; exact hΦ))
          intro u w2 hk2 _ hd
          simp only [List.nil_append, List.cons_append] at hd
          refine ⟨rfl, ?_⟩
          intro K hK
          have hlast := hd 15 _ rfl
          simp only [Is] at hlast
          clear hd
          simp only [hlast]
          clear hlast
          have hO3 := hO.grow hk2
          have hca3 := hO3.b0.cell
          go_wp2_with fail
          go_roundw
          case rel => exact ⟨q + 1, by go_num, by omega, by rw [HS2.out]; rfl, hO3⟩
          case measure => simp [intOf]; omega
         | false =>
          have hbe : (y2 == se) = decide (y2 = se) := rfl
          go_wp2_with fail
          clear hca
          apply wp_region_lextf (Below (wr).heap.size) (fun W => below_drewN (Below.refl _ _) 1) (fun _ _ _ h1 h2 => h1.trans h2) (fun _ => Below (wr).heap.size) (fun _ _ _ h => h) (fun _ _ => True) (fun _ => trivial) (fun _ _ _ _ _ _ _ => trivial)
          case hFl =>
           intro u
           simp only [List.map, List.dropLast, fill, Act.put, List.setIfInBounds_toArray, List.set_cons_zero, List.set_cons_succ, Nat.reduceAdd, Nat.zero_add]
           rfl
          case hm => kernel_rfl
          case hB => kernel_rfl
          case hA => kernel_rfl
          case hap => kernel_rfl
          repeat (first
           |(
             apply LexTL.is
             ·
              (
              intro u w' hk hpre hd
              simp [Waited, Region.binds, Is] at hd
              refine lookedT_want ?_ ?_
              ·
               first
               | rfl
               |(simp [Region.wanted, yielded, hd]; done)
              intro K hK
              have hO2 := hO.grow hk; have hca := hO2.b0.cell; have hcb := hO2.b1.cell; have m0 := ka0 _ hO2.below; have m1 := kb1 _ hO2.below
              go_wp2_with (fail)
              try simp only [hd] at hK
              refine hK _ _ ?_ rfl
              first | exact Below.refl _ _ | exact hb3.mono hk.size))
           |(
             refine LexTL.is (c := undef) ?_ ?_
             ·
              (
              intro u w' hk hpre hd
              simp [Waited, Region.binds, Is] at hd
              refine lookedT_skip ?_ rfl
              first
              |(simp [Region.wanted, yielded, hd]; done)
              |(simp [Region.wanted, yielded, hd, undef]; done))))
          refine LexTL.last ?_ ?_
          ·
           intro i' j Φ hij _ hj v W W' hΦ ht
           have hm := List.mem_of_getElem? hj
           simp only [List.nil_append, List.cons_append, List.mem_cons, List.not_mem_nil, or_false] at hm
           repeat (first | (rcases hm with rfl | hm; exact hΦ) | (subst hm; exact hΦ))
          intro u w2 hk2 _ hd
          simp only [List.nil_append, List.cons_append] at hd
          refine ⟨rfl, ?_⟩
          intro K hK
          have hlast := hd 15 _ rfl
          simp only [Is] at hlast
          clear hd
          simp only [hlast]
          clear hlast
          have hO3 := hO.grow hk2
          have hca3 := hO3.b0.cell
          go_wp2_with fail
          go_roundw
          case rel => exact ⟨q + 1, by go_num, by omega, by rw [HS2.out]; first | rfl | simp, hO3⟩
          case measure => simp [intOf]; omega
        ·
         obtain rfl : q = m.n3 := by omega
         have hdc2 : decide ((m.n3 : Int) < (m.n3 : Int)) = false := by simp
         rw [List.take_of_length_le (by rw [h.e3]; exact Nat.le_refl _)]
         have hca := hO.b0.cell
         generalize (t.bals.any fun b => decide (b.edge = se)) = has at *
         cases has with
         | true =>
          go_wp2_with fail
          go_roundw
          case rel => exact ⟨k + 1, by go_num, by omega, HST, hO⟩
          case measure => simp [intOf]; omega
         | false =>
          have HR' := HR.out
          rw [if_neg (by rw [HNT.out rfl]; simp)] at HR'
          replace HR := Lib.hid HR'
          clear HR'
          go_wp2_with fail
          go_ret
          exact ⟨by simp [HR.out], hO.below⟩
      ·
       obtain rfl : k = i := by omega
       have hdc : decide ((k : Int) < (k : Int)) = false := by simp
       have hyes := hall.out
       rw [List.take_of_length_le (by rw [HN.out]; exact Nat.le_refl _)] at hyes
       have HR' := HR.out
       rw [if_pos hyes] at HR'
       replace HR := Lib.hid HR'
       clear HR' hyes hall
       have hca := hO.b0.cell
       have hcb := hO.b1.cell
       go_wp2_with fail
       go_ret
       exact ⟨by simp [HR.out], hO.below⟩
   ·
    have HR' := HR.out
    rw [if_pos hl0] at HR'
    replace HR := Lib.hid HR'
    clear HR'
    have f0 : (le != 0) = true := by simpa using hl0
    go_wp2_with (first
     |(go_at_call 114; (with_reducible refine (hle _ hO.below).mono ?_); rintro e w1 ⟨rfl, hb1⟩; replace hO := hO.grow hb1; have hcl1 := hO.b0.cell; have hcr1 := hO.b1.cell))
    go_ret
    exact ⟨by simp [HR.out], hO.below⟩
open Go.RowKit
def asB (v : Value) : Option Bool := match v with
 | .bool c => some c
 | _ => none
section
variable {P : Program} {ops : Array Oper} {F : (Nat → Value) → Act} {Q : Exit → Act → World → Prop}
theorem looked_free {o : Oper} {Φ : Value → World → Prop} {u : Nat → Value} {w : World} (hg : o.guard = none)
  (h : ∀ K : Act → World → Prop, (∀ v w', Below w.heap.size w w' → Φ v w' → K ((F u).put o.dst v) w') → o.wp P (F u) w K Q) : Looked P ops F o Φ Q u w :=
 looked_want (by simp [Region.wanted, hg]) h
theorem wanted_guard {o : Oper} {u : Nat → Value} {j : Nat} {b : Bool} {d : Tmp} (hg : o.guard = some (j, b)) (hd : (ops[j]?).bind (·.dst) = some d) (hF : (F u).tmps[d]? = some (u j)) : Region.wanted o (yielded ops (F u).tmps) = (asB (u j) == some b) := by
 unfold Region.wanted yielded asB
 rw [hg]
 simp only [hd, Option.bind_some, hF]
 cases u j <;> rfl
theorem looked_skip_g {o : Oper} {Φ : Value → World → Prop} {u : Nat → Value} {w : World} {j : Nat} {b : Bool} {d : Tmp} (hg : o.guard = some (j, b)) (hd : (ops[j]?).bind (·.dst) = some d) (hF : (F u).tmps[d]? = some (u j)) (hv : (asB (u j) == some b) = false) (h : Φ undef w) : Looked P ops F o Φ Q u w :=
 looked_skip ((wanted_guard hg hd hF).trans hv) h
theorem looked_want_g {o : Oper} {Φ : Value → World → Prop} {u : Nat → Value} {w : World} {j : Nat} {b : Bool} {d : Tmp} (hg : o.guard = some (j, b)) (hd : (ops[j]?).bind (·.dst) = some d) (hF : (F u).tmps[d]? = some (u j)) (hv : (asB (u j) == some b) = true)
  (h : ∀ K : Act → World → Prop, (∀ v w', Below w.heap.size w w' → Φ v w' → K ((F u).put o.dst v) w') → o.wp P (F u) w K Q) : Looked P ops F o Φ Q u w :=
 looked_want ((wanted_guard hg hd hF).trans hv) h
end
end Go.Proofs.YtkaggddmhjifjaaGreatDoor
