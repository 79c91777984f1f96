/- Texts in one: SpanT TopoLen TopoLenB TopoRoute. -/
import Derived.Test.YtkaggddmhjifjaaGreatDoorK07
import Derived.Test.YtkaggddmhjifjaaGreatDoorK03
import Derived.Test.YtkaggddmhjifjaaGreatDoorK04
set_option linter.unusedSimpArgs false
set_option linter.unusedVariables false
namespace Go.Proofs.YtkaggddmhjifjaaGreatDoor
open Go.RowKit Go.Shelf Go.Sort
theorem join_all {P : Sp → Prop} (hP : ∀ o s, P o → P s → P ⟨o.edge, o.lo, max o.hi s.hi⟩) : ∀ (l out : List Sp), (∀ s ∈ out, P s) → (∀ s ∈ l, P s) → ∀ s ∈ joinT out l, P s
 | [], out, ho, _ => by
  rw [joinT.eq_def]
  exact ho
 | s :: l, [], _, hl => by
  rw [joinT]
  exact join_all hP l [s] (by intro x hx; rw [List.mem_singleton] at hx; subst hx; exact hl _ (by simp)) (fun x hx => hl x (List.mem_cons_of_mem _ hx))
 | s :: l, o :: out, ho, hl => by
  rw [joinT]
  have h1 := ho o (by simp)
  have h2 := hl s (by simp)
  split
  ·
   refine join_all hP l _ ?_ (fun x hx => hl x (List.mem_cons_of_mem _ hx))
   intro x hx
   rcases List.mem_cons.1 hx with rfl | hx
   ·
    exact hP _ _ h1 h2
   ·
    exact ho x (List.mem_cons_of_mem _ hx)
  ·
   refine join_all hP l _ ?_ (fun x hx => hl x (List.mem_cons_of_mem _ hx))
   intro x hx
   rcases List.mem_cons.1 hx with rfl | hx
   ·
    exact h2
   ·
    exact ho x hx
theorem join_len : ∀ (l out : List Sp), (joinT out l).length ≤ out.length + l.length
 | [], out => by
  rw [joinT.eq_def]
  simp
 | s :: l, [] => by
  rw [joinT]
  have := join_len l [s]
  simp at this ⊢
  omega
 | s :: l, o :: out => by
  rw [joinT]
  split
  ·
   have := join_len l (⟨o.edge, o.lo, max o.hi s.hi⟩ :: out)
   simp at this ⊢
   omega
  ·
   have := join_len l (s :: o :: out)
   simp at this ⊢
   omega
theorem norm_small (l : List Sp) : ∀ s ∈ normT l, 0 ≤ s.lo ∧ s.lo ≤ s.hi ∧ s.hi ≤ 1000000 := by
 intro s hs
 unfold normT at hs
 rw [List.mem_reverse] at hs
 refine join_all (P := fun s => 0 ≤ s.lo ∧ s.lo ≤ s.hi ∧ s.hi ≤ 1000000) ?_ _ [] (by simp) ?_ s hs
 ·
  intro o s h1 h2
  exact ⟨h1.1, by simp only; omega, by simp only; omega⟩
 ·
  intro x hx
  have hx := (foldSp_perm _).mem_iff.1 hx
  have := (List.mem_filter.1 hx).2
  simp [someT] at this
  omega
theorem norm_len (l : List Sp) : (normT l).length ≤ l.length := by
 unfold normT
 rw [List.length_reverse]
 refine Nat.le_trans (join_len _ []) ?_
 rw [(foldSp_perm _).length_eq]
 simpa using List.length_filter_le _ _
theorem sumSp_snoc {l : List Sp} {j : Nat} {s : Sp} (h : l[j]? = some s) : sumSp (l.take (j + 1)) = sumSp (l.take j) + (s.hi - s.lo) := by
 rw [take_snoc' h]
 simp [sumSp]
theorem sumSp_le : ∀ l : List Sp, (∀ s ∈ l, 0 ≤ s.lo ∧ s.lo ≤ s.hi ∧ s.hi ≤ 1000000) → 0 ≤ sumSp l ∧ sumSp l ≤ 1000000 * l.length
 | [], _ => by simp [sumSp]
 | s :: l, h => by
  have h1 := h s (by simp)
  have h2 := sumSp_le l (fun x hx => h x (List.mem_cons_of_mem _ hx))
  simp [sumSp] at h2 ⊢
  omega
set_option maxRecDepth 8000 in
set_option maxHeartbeats 4000000 in
theorem total_k (A : Option Addr) (n c : Nat) (xs : List Sp) (w : World) (hr : RowsAt encSp w A xs) (hn : xs.length = n) (hl : n ≤ 1000) : Calls Tryz.prog 20 #[.slice A n c] w fun e w' => e = .returned (.int .i64 (totalT xs)) ∧ Below w.heap.size w w' := by
 have hno := norm_k A n c xs w hr hn hl
 have hT : totalT xs = sumSp (normT xs) := rfl
 have hsm := norm_small xs
 have hnl := norm_len xs
 rw [hn] at hnl
 generalize totalT xs = tot at *
 generalize normT xs = zs at *
 obtain ⟨m, hm⟩ : ∃ m, m = zs.length := ⟨_, rfl⟩
 rw [← hm] at hno hnl
 have HM := Lib.hid hm.symm
 have HT := Lib.hid hT
 have HS := Lib.hid hsm
 clear hr hn hsm hT hm
 go_enter Tryz.func20, Tryz.ntmps20
 go_wp2_with (first
  |(go_at_call 53; (with_reducible refine hno.mono ?_); rintro e w1 ⟨A0, c0, rfl, ho1, hb1⟩))
 have hys := ho1.rows
 clear hno ho1
 go_loopw [3, 9] (fun s i wr => ∃ j : Nat, i = .int .i64 j ∧ j ≤ m ∧ s = .int .i64 (sumSp (zs.take j)) ∧ Below w1.heap.size w1 wr) (fun _ i _ => m - (intOf i).toNat)
 case atStart => exact ⟨0, rfl, by omega, rfl, Below.refl _ _⟩
 case round =>
  obtain ⟨j, rfl, hj, rfl, hb⟩ := hrel
  have hyr := hys.below hb
  by_cases hlt : j < m
  ·
   obtain ⟨y, hy⟩ := get_some HM.out hlt
   obtain ⟨b0, off0, rfl, hbl, hc⟩ := hyr.get hy
   have kk0 := hc 0 (.int .i64 y.edge) rfl
   have kk1 := hc 1 (.int .i64 y.lo) rfl
   have kk2 := hc 2 (.int .i64 y.hi) rfl
   simp only [encSp, Nat.zero_add, Nat.add_zero] at kk0 kk1 kk2
   have hO1 : Own wr _ [_] := (Own.nil wr).alloc 75 #[.int .i64 y.edge, .int .i64 y.lo, .int .i64 y.hi] _ rfl
   have hy1 := HS.out y (List.mem_of_getElem? hy)
   have hsn := Lib.hid (sumSp_snoc hy)
   have hle := sumSp_le (zs.take j) (fun s hs => HS.out s (List.mem_of_mem_take hs))
   have hlj : (zs.take j).length ≤ 1000 := by rw [List.length_take]; omega
   have hs0 : 0 ≤ sumSp (zs.take j) ∧ sumSp (zs.take j) ≤ 1000000000 := by omega
   clear hc hy hyr hle hlj
   obtain ⟨y1, y2, y3⟩ := y
   simp only at kk0 kk1 kk2 hO1 hy1
   generalize sumSp (zs.take j) = sm at *
   go_wp2_with fail
   go_roundw
   case rel =>
    refine ⟨j + 1, by go_num, by omega, ?_, hb.trans (hO1.below.mono hb.size)⟩
    rw [hsn.out]
   case measure => simp [intOf]; omega
  ·
   obtain rfl : j = m := by omega
   go_wp2_with fail
   go_ret
   rw [List.take_of_length_le (by rw [HM.out]; exact Nat.le_refl _), ← HT.out]
   exact ⟨rfl, hb1.trans (hb.mono hb1.size)⟩
end Go.Proofs.YtkaggddmhjifjaaGreatDoor
set_option linter.unusedSimpArgs false
set_option linter.unusedVariables false
namespace Go.Proofs.YtkaggddmhjifjaaGreatDoor
open Go.RowKit
set_option maxRecDepth 8000 in
set_option maxHeartbeats 2000000 in
theorem way_m {w : World} {t : Tp} {m : TpM} (h : TpIs w t m) (A : Option Addr) (n c : Nat) (p : List St) (hp : RowsAt encSt w A p) (hn : p.length = n) (hl : n ≤ 100) : Calls Tryz.prog 163 #[.agg m.cells, .slice A n c] w fun r w' => r = .returned (.bool (wayT t p)) ∧ Below w.heap.size w w' := by
 have hO : Own w _ [_] := (Own.nil w).alloc 27 m.cells _ rfl
 have HN := Lib.hid hn
 clear hn
 unfold TpM.cells at *
 go_enter Tryz.func163, Tryz.ntmps163
 go_wp2
 go_loopw [5] (fun i wr => ∃ k : Nat, i = .int .i64 ((k : Int) + 1) ∧ k ≤ n ∧ Hid (∀ j a b, j < k → p[j]? = some a → p[j + 1]? = some b → mayT t a b = true) ∧ Own w wr [(w.heap.size, 27, #[.slice m.A1 m.n1 m.c1, .slice m.A2 m.n2 m.c2, .slice m.A3 m.n3 m.c3, .slice m.A4 m.n4 m.c4])]) (fun i _ => n - (intOf i).toNat)
 case atStart => exact ⟨0, rfl, Nat.zero_le _, Lib.hid (fun j a b hj => by omega), hO⟩
 case round =>
  clear hO
  obtain ⟨k, rfl, hk, hall, hO⟩ := hrel
  by_cases hlt : k + 1 < n
  ·
   obtain ⟨a, ha⟩ := get_some HN.out (show k < n by omega)
   obtain ⟨b, hb⟩ := get_some HN.out (show k + 1 < n by omega)
   obtain ⟨g, off, rfl, hg, a0, a1⟩ := hp.st ha
   obtain ⟨g', off', e, _, b0, b1⟩ := hp.st hb
   simp only [Option.some.injEq, Addr.mk.injEq] at e
   obtain ⟨rfl, rfl, -⟩ := e
   have ka0 := fun W (hW : Below w.heap.size w W) => (hW.cell (p := ⟨g, off + k * 2, none⟩) hg).trans a0
   have ka1 := fun W (hW : Below w.heap.size w W) => (hW.cell (p := ⟨g, off + k * 2 + 1, none⟩) hg).trans a1
   have kb0 := fun W (hW : Below w.heap.size w W) => (hW.cell (p := ⟨g, off + (k + 1) * 2, none⟩) hg).trans b0
   have kb1 := fun W (hW : Below w.heap.size w W) => (hW.cell (p := ⟨g, off + (k + 1) * 2 + 1, none⟩) hg).trans b1
   have hm := fun W (hW : Below w.heap.size w W) => may_m (h.below hW) a b
   have HA := Lib.hid ha
   have HB := Lib.hid hb
   clear ha hb a0 a1 b0 b1
   cases hr : mayT t a b with
   | false =>
    rw [hr] at hm
    have HR := Lib.hid (way_no HA.out HB.out hr)
    clear hr
    obtain ⟨x1, x2⟩ := a
    obtain ⟨y1, y2⟩ := b
    simp only [stV, TpM.cells] at hm ka0 ka1 kb0 kb1
    have hdc : decide ((k : Int) + 1 < (n : Int)) = true := by simp; omega
    go_wp2
    apply wp_region_lex
    case hFl => intro u; simp only [List.map, fill, Act.put, List.setIfInBounds_toArray, List.set_cons_zero, List.set_cons_succ, Nat.reduceAdd, Nat.zero_add]; rfl
    case hm => kernel_rfl
    case hB => kernel_rfl
    case hap => kernel_rfl
    repeat (first | (apply Lex.is; · (intro u w' hk hd; simp [Waited, Region.binds, Is] at hd; refine looked_want ?_ ?_; (· (first | rfl | (simp [Region.wanted, yielded, hd]; done))); intro K hK; have hO2 := hO.grow hk; have hB2 := hO2.below; have hcl := hO2.b0.cell; have m1 := ka0 _ hB2; have m2 := ka1 _ hB2; have m3 := kb0 _ hB2; have m4 := kb1 _ hB2; go_wp2_with (go_at_call 226; (with_reducible refine (hm _ hB2).mono ?_); rintro e w3 ⟨rfl, hb3⟩); (try simp only [hd] at hK); refine hK _ _ ?_ rfl; first | exact Below.refl _ _ | exact hb3)) | (refine Lex.is (c := undef) ?_ ?_; · (intro u w' hk hd; simp [Waited, Region.binds, Is] at hd; refine looked_skip ?_ rfl; first | (simp [Region.wanted, yielded, hd]; done) | (simp [Region.wanted, yielded, hd, undef]; done))))
    apply Lex.nil
    intro u w' hk hd
    simp only [List.nil_append, List.cons_append] at hd
    have hlast := hd 11 _ rfl
    simp only [Is] at hlast
    clear hd
    simp only [hlast]
    clear hlast
    have hB3 := (hO.grow hk).below
    go_wp2_with fail
    go_ret
    exact ⟨by simp [HR.out], hB3⟩
   | true =>
    rw [hr] at hm
    have hall' := Lib.hid (fun j a' b' (hj : j < k + 1) (h1 : p[j]? = some a') (h2 : p[j + 1]? = some b') => show mayT t a' b' = true by
     rcases Nat.lt_or_ge j k with g | g
     ·
      exact hall.out j a' b' g h1 h2
     ·
      obtain rfl : j = k := by omega
      rw [HA.out] at h1
      rw [HB.out] at h2
      cases h1
      cases h2
      exact hr)
    clear hr hall
    obtain ⟨x1, x2⟩ := a
    obtain ⟨y1, y2⟩ := b
    simp only [stV, TpM.cells] at hm ka0 ka1 kb0 kb1
    have hdc : decide ((k : Int) + 1 < (n : Int)) = true := by simp; omega
    go_wp2
    apply wp_region_lex
    case hFl => intro u; simp only [List.map, fill, Act.put, List.setIfInBounds_toArray, List.set_cons_zero, List.set_cons_succ, Nat.reduceAdd, Nat.zero_add]; rfl
    case hm => kernel_rfl
    case hB => kernel_rfl
    case hap => kernel_rfl
    repeat (first | (apply Lex.is; · (intro u w' hk hd; simp [Waited, Region.binds, Is] at hd; refine looked_want ?_ ?_; (· (first | rfl | (simp [Region.wanted, yielded, hd]; done))); intro K hK; have hO2 := hO.grow hk; have hB2 := hO2.below; have hcl := hO2.b0.cell; have m1 := ka0 _ hB2; have m2 := ka1 _ hB2; have m3 := kb0 _ hB2; have m4 := kb1 _ hB2; go_wp2_with (go_at_call 226; (with_reducible refine (hm _ hB2).mono ?_); rintro e w3 ⟨rfl, hb3⟩); (try simp only [hd] at hK); refine hK _ _ ?_ rfl; first | exact Below.refl _ _ | exact hb3)) | (refine Lex.is (c := undef) ?_ ?_; · (intro u w' hk hd; simp [Waited, Region.binds, Is] at hd; refine looked_skip ?_ rfl; first | (simp [Region.wanted, yielded, hd]; done) | (simp [Region.wanted, yielded, hd, undef]; done))))
    apply Lex.nil
    intro u w' hk hd
    simp only [List.nil_append, List.cons_append] at hd
    have hlast := hd 11 _ rfl
    simp only [Is] at hlast
    clear hd
    simp only [hlast]
    clear hlast
    have hO3 := hO.grow hk
    go_wp2_with fail
    go_roundw
    case rel => exact ⟨k + 1, by go_num, by omega, hall', hO3⟩
    case measure => simp [intOf]; omega
  ·
   have hdc : decide ((k : Int) + 1 < (n : Int)) = false := by simp; omega
   have hfin := Lib.hid ((way_iff t p).2 fun j a b h1 h2 => hall.out j a b (by
    have := (List.getElem?_eq_some_iff.1 h2).1
    have := HN.out
    omega) h1 h2)
   go_wp2_with fail
   go_ret
   exact ⟨by simp [hfin.out], hO.below⟩
end Go.Proofs.YtkaggddmhjifjaaGreatDoor
set_option linter.unusedSimpArgs false
set_option linter.unusedVariables false
namespace Go.Proofs.YtkaggddmhjifjaaGreatDoor
open Go.RowKit
theorem sum_snoc (t : Tp) {p : List St} {k : Nat} {s : St} (h : p[k]? = some s) : sumT t (p.take (k + 1)) = wrap64 (sumT t (p.take k) + edgeT t s.edge) := by
 unfold sumT
 rw [take_snoc' h, List.foldl_append]
 rfl
theorem len_bad {t : Tp} {p : List St} {k : Nat} {s : St} (h : p[k]? = some s) (hs : thereT t s.edge = false) : lenE t p = 1 := by
 unfold lenE
 have : (p.all fun s => thereT t s.edge) = false := by
  rw [List.all_eq_false]
  exact ⟨s, List.mem_of_getElem? h, by simp [hs]⟩
 rw [this]
 simp
theorem len_good {t : Tp} {p : List St} (h0 : p ≠ []) (h1 : p.length ≤ 40) (hs : ∀ (j : Nat) (s : St), p[j]? = some s → thereT t s.edge = true) : lenE t p = if wayT t p then 0 else 141 := by
 unfold lenE
 have : (p.all fun s => thereT t s.edge) = true := by
  rw [List.all_eq_true]
  intro s hm
  obtain ⟨j, hj⟩ := List.getElem?_of_mem hm
  exact hs j s hj
 rw [this, if_neg (by
  have : p.length ≠ 0 := fun h => h0 (List.length_eq_zero_iff.1 h)
  omega)]
 simp
theorem there_int {t : Tp} {e : Int} (h : thereT t e = true) : ∃ i : Nat, e = (i : Int) ∧ i < t.edges.length ∧ edgeT t e = t.edges[i]! := by
 unfold thereT at h
 simp only [Bool.and_eq_true, decide_eq_true_eq] at h
 obtain ⟨i, rfl⟩ := Int.eq_ofNat_of_zero_le h.1
 exact ⟨i, rfl, by omega, by simp [edgeT]⟩
set_option maxRecDepth 8000 in
set_option maxHeartbeats 2000000 in
theorem len_m {w : World} {t : Tp} {m : TpM} (h : TpIs w t m) (A : Option Addr) (n c : Nat) (p : List St) (hp : RowsAt encSt w A p) (hn : p.length = n) (hl : n ≤ 100) : Calls Tryz.prog 107 #[.agg m.cells, .slice A n c] w fun r w' => r = .returned (.tuple #[.int .i64 (lenT t p), .int .i64 (lenE t p)]) ∧ Below w.heap.size w w' := by
 have hO : Own w _ [_] := (Own.nil w).alloc 27 m.cells _ rfl
 have HN := Lib.hid hn
 have hcl := hO.b0.cell
 by_cases hz : n = 0
 ·
  subst hz
  have hp0 : p = [] := List.length_eq_zero_iff.1 hn
  subst hp0
  clear hn
  unfold TpM.cells at *
  go_enter Tryz.func107, Tryz.ntmps107
  go_wp2
  go_ret2
  exact ⟨by simp [lenE, lenT], hO.below⟩
 ·
  by_cases h40 : 40 < n
  ·
   have hE : lenE t p = 1 := by
    unfold lenE
    rw [if_pos (by omega)]
   have hT : lenT t p = 0 := by
    unfold lenT
    rw [hE]
    rfl
   have HE := Lib.hid hE
   have HT := Lib.hid hT
   clear hE hT hn
   have e1 : ((n : Int) == 0) = false := by simp; omega
   have e2 : decide (40 < (n : Int)) = true := by simp; omega
   unfold TpM.cells at *
   go_enter Tryz.func107, Tryz.ntmps107
   go_wp2
   go_ret2
   exact ⟨by simp [HE.out, HT.out], hO.below⟩
  ·
   clear hn
   have e1 : ((n : Int) == 0) = false := by simp; omega
   have e2 : decide (40 < (n : Int)) = false := by simp; omega
   unfold TpM.cells at *
   go_enter Tryz.func107, Tryz.ntmps107
   go_wp2
   go_loopw [6, 19] (fun s i wr => ∃ k : Nat, i = .int .i64 k ∧ k ≤ n ∧ s = .int .i64 (sumT t (p.take k)) ∧ Hid (∀ (j : Nat) (s : St), j < k → p[j]? = some s → thereT t s.edge = true) ∧ Own w wr [(w.heap.size, 27, #[.slice m.A1 m.n1 m.c1, .slice m.A2 m.n2 m.c2, .slice m.A3 m.n3 m.c3, .slice m.A4 m.n4 m.c4])]) (fun _ i _ => n - (intOf i).toNat)
   case atStart => exact ⟨0, rfl, Nat.zero_le _, rfl, Lib.hid (fun j a hj => by omega), hO⟩
   case round =>
    clear hO hcl
    obtain ⟨k, rfl, hk, rfl, hall, hO⟩ := hrel
    have hcl := hO.b0.cell
    by_cases hlt : k < n
    ·
     obtain ⟨s, hs⟩ := get_some HN.out (show k < n by omega)
     obtain ⟨g, off, rfl, hg, a0, a1⟩ := hp.st hs
     have ka0 := fun W (hW : Below w.heap.size w W) => (hW.cell (p := ⟨g, off + k * 2, none⟩) hg).trans a0
     have ka1 := fun W (hW : Below w.heap.size w W) => (hW.cell (p := ⟨g, off + k * 2 + 1, none⟩) hg).trans a1
     have kk0 := ka0 _ hO.below
     have kk1 := ka1 _ hO.below
     have hm := fun W => there_m h s.edge W
     have HS := Lib.hid hs
     have HX := Lib.hid (sum_snoc t hs)
     clear a0 a1
     cases hr : thereT t s.edge with
     | false =>
      have HR := Lib.hid (len_bad hs hr)
      rw [hr] at hm
      clear hs hr
      obtain ⟨x1, x2⟩ := s
      simp only [TpM.cells] at hm ka0 ka1 kk0 kk1
      have hO1 := Own.new1 hO 95 #[.int .i64 x1, .bool x2]
      have hcm := hO1.b0.cell
      have hcn := hO1.b1.cell
      go_wp2_with (first
       |(go_at_call 123; (with_reducible refine (hm _).mono ?_); rintro e w1 ⟨rfl, hb1⟩; replace hO := hO1.grow hb1))
      go_ret2
      exact ⟨by simp [HR.out, lenT], hO.below⟩
     | true =>
      rw [hr] at hm
      obtain ⟨i, hi, hil, hie⟩ := there_int hr
      obtain ⟨ge, offe, hge, hgb, c0⟩ := h.lies.edges.int hil
      have ke0 := fun W (hW : Below w.heap.size w W) => (hW.cell (p := ⟨ge, offe + i, none⟩) hgb).trans c0
      have hi1 := h.e1
      have hin : i < m.n1 := by omega
      have hall' := Lib.hid (fun j s' (hj : j < k + 1) (h1 : p[j]? = some s') => show thereT t s'.edge = true by
       rcases Nat.lt_or_ge j k with g | g
       ·
        exact hall.out j s' g h1
       ·
        obtain rfl : j = k := by omega
        rw [HS.out] at h1
        cases h1
        exact hr)
      rw [hie] at HX
      generalize t.edges[i]! = ev at *
      clear hs hr hie hil c0 hi1 hall
      obtain ⟨x1, x2⟩ := s
      simp only at hi
      subst hi
      generalize sumT t (p.take k) = sm at *
      simp only [TpM.cells, hge] at hm ka0 ka1 kk0 kk1 hO hcl ⊢
      have hO1 := Own.new1 hO 95 #[.int .i64 i, .bool x2]
      have hcm := hO1.b0.cell
      have hcn := hO1.b1.cell
      go_wp2_with (first
       |(go_at_call 123; (with_reducible refine (hm _).mono ?_); rintro e w1 ⟨rfl, hb1⟩; replace hO := hO1.grow hb1; have hcl1 := hO.b0.cell; have hcl2 := hO.b1.cell; have ke := ke0 _ hO.below))
      go_roundw
      case rel => exact ⟨k + 1, by go_num, by omega, by rw [HX.out], hall', ⟨hO.below, fun x hx => hO.blk x (by simp at hx; simp [hx]), by simp⟩⟩
      case measure => simp [intOf]; omega
    ·
     obtain rfl : k = n := by omega
     have hne : p ≠ [] := by
      rintro rfl
      have := HN.out
      simp at this
      omega
     have hgood := len_good hne (by rw [HN.out]; omega) (fun j s hj => hall.out j s (by
      have := (List.getElem?_eq_some_iff.1 hj).1
      have := HN.out
      omega) hj)
     have hm := fun W (hW : Below w.heap.size w W) => way_m (h.below hW) A k c p (hp.below hW) HN.out hl
     have hsum : sumT t (p.take k) = sumT t p := by rw [List.take_of_length_le (by rw [HN.out]; exact Nat.le_refl _)]
     rw [hsum]
     have hlenT : lenT t p = if lenE t p = 0 then sumT t p else 0 := rfl
     generalize sumT t p = sm at *
     cases hw : wayT t p with
     | false =>
      rw [hw] at hm hgood
      rw [hgood] at hlenT
      have HE := Lib.hid hgood
      have HT := Lib.hid hlenT
      simp only [TpM.cells] at hm
      clear hgood hlenT hsum hw hne
      go_wp2_with (first
       |(go_at_call 163; (with_reducible refine (hm _ hO.below).mono ?_); rintro e w1 ⟨rfl, hb1⟩; replace hO := hO.grow hb1))
      go_ret2
      exact ⟨by simp [HE.out, HT.out], hO.below⟩
     | true =>
      rw [hw] at hm hgood
      rw [hgood] at hlenT
      have HE := Lib.hid hgood
      have HT := Lib.hid hlenT
      simp only [TpM.cells] at hm
      clear hgood hlenT hsum hw hne
      go_wp2_with (first
       |(go_at_call 163; (with_reducible refine (hm _ hO.below).mono ?_); rintro e w1 ⟨rfl, hb1⟩; replace hO := hO.grow hb1))
      go_ret2
      exact ⟨by simp [HE.out, HT.out], hO.below⟩
end Go.Proofs.YtkaggddmhjifjaaGreatDoor
set_option linter.unusedSimpArgs false
set_option linter.unusedVariables false
namespace Go.Proofs.YtkaggddmhjifjaaGreatDoor
open Go.RowKit Go.Shelf
theorem enter_route1 : ∀ args w, (callFunc 136 args).run Tryz.prog w = .ok (.enter 136 args) w := enters_of Tryz.func136 (by kernel_rfl) (by rfl)
theorem route1_k (r : Rt × Option Addr × Nat) (id : Int) (A : Addr) (w : World) (hA : w.cell? A = some (.int .i64 id)) (hb : A.block < w.heap.size) : Calls Tryz.prog 136 #[.agg (encRt.enc r).toArray, .pointer (some A)] w fun e w' => e = .returned (.bool (decide (r.1.id = id))) ∧ Below w.heap.size w w' := by
 obtain ⟨⟨b1, b2, b3, b4⟩, b5, b6⟩ := r
 simp only [encRt]
 have hO : Own w _ [_] := (Own.nil w).alloc 97 #[.int .i64 b1, .slice b5 b2.length b6, .int .i64 b3, .int .i64 b4] _ rfl
 have hcl := hO.b0.cell
 have hA2 := (hO.below.cell (p := A) hb).trans hA
 go_enter Tryz.func136, Tryz.ntmps136
 go_wp2_with fail
 go_ret
 refine ⟨?_, hO.below⟩
 by_cases h : b1 = id <;> simp [h]
theorem idx_find' {α : Type} [Inhabited α] (q : α → Bool) : ∀ (bs : List α) (i : Nat), (∃ j, Lib.idxByFrom (fun _ y => q y) default bs i = ((i + j : Nat) : Int) ∧ bs[j]? = bs.find? q ∧ (bs.find? q).isSome = true) ∨ (Lib.idxByFrom (fun _ y => q y) default bs i = -1 ∧ bs.find? q = none)
 | [], i => .inr ⟨rfl, rfl⟩
 | y :: bs, i => by
  rw [Lib.idxByFrom, List.find?_cons]
  cases hq : q y with
  | true => exact .inl ⟨0, by simp, by simp, rfl⟩
  | false =>
   simp only [Bool.false_eq_true, if_false]
   rcases idx_find' q bs (i + 1) with ⟨j, h1, h2, h3⟩ | h
   ·
    exact .inl ⟨j + 1, by rw [h1]; congr 1; omega, by rw [List.getElem?_cons_succ]; exact h2, h3⟩
   ·
    exact .inr h
theorem rs_find {t : Tp} {rs : List (Rt × Option Addr × Nat)} (h : rs.map (·.1) = t.routes) (id : Int) : (rs.find? fun p => decide (p.1.id = id)).map (·.1) = routeT t id := by
 unfold routeT
 rw [← h, List.find?_map]
 rfl
abbrev rtV (r : Rt) (A : Option Addr) (c : Nat) : Value := .agg #[.int .i64 r.id, .slice A r.path.length c, .int .i64 r.gap, .int .i64 r.timer]
def RetRt (t : Tp) (id : Int) (w : World) (e : Ending) (w' : World) : Prop := (match routeT t id with
 | none => e = .returned (.tuple #[.agg #[.int .i64 0, .slice none 0 0, .int .i64 0, .int .i64 0], .bool false])
 | some r => ∃ A c, e = .returned (.tuple #[rtV r A c, .bool true]) ∧ OwnRows encSt 95 w' w.heap.size A c r.path) ∧ Below w.heap.size w w'
set_option maxHeartbeats 2000000 in
theorem route_m {w : World} {t : Tp} {m : TpM} (h : TpIs w t m) (id : Int) : Calls Tryz.prog 76 #[.agg m.cells, .int .i64 id] w (RetRt t id w) := by
 have hO : Own w _ [_, _, _] := Own.start3 w 27 3 97 m.cells #[.int .i64 id] #[.int .i64 0, .slice none 0 0, .int .i64 0, .int .i64 0]
 have hcl := hO.b0.cell
 have hid := hO.b1.cell 0
 have hlen : m.rs.length = m.n4 := by rw [← h.e4, ← h.lies.is, List.length_map]
 have hl4 := h.l4
 have hcall := idxRt_k 136 enter_route1 #[.pointer (some ⟨w.heap.size + 1, 0, none⟩)] (fun p => decide (p.1.id = id)) m.A4 m.n4 m.c4 m.rs _ (fun W x hW => (route1_k x id ⟨w.heap.size + 1, 0, none⟩ W ((hW.cell (p := ⟨w.heap.size + 1, 0, none⟩) hO.b1.lt).trans hid) (Nat.lt_of_lt_of_le hO.b1.lt hW.size)).mono fun _ _ h => ⟨h.1, below_then hW h.2⟩) (h.lies.routes.below hO.below) hlen (by omega)
 unfold Lib.idxBy at hcall
 have hrs := rs_find h.lies.is id
 rcases idx_find' (fun p : Rt × Option Addr × Nat => decide (p.1.id = id)) m.rs 0 with ⟨j, h1, h2, h3⟩ | ⟨h1, h2⟩
 ·
  obtain ⟨p, hp⟩ := Option.isSome_iff_exists.1 h3
  rw [hp] at hrs h2
  rw [h1, Nat.zero_add] at hcall
  have hj : j < m.n4 := by rw [← hlen]; exact (List.getElem?_eq_some_iff.1 h2).1
  obtain ⟨g, off, hA4, hg, l0, l1, l2, l3⟩ := h.lies.routes.rt h2
  have hpath := h.lies.paths p (List.mem_of_getElem? h2)
  have hpl : p.1.path.length ≤ 100 := h.l5 _ (by rw [← h.lies.is]; exact List.mem_map_of_mem (List.mem_of_getElem? h2))
  obtain ⟨⟨r1, r2, r3, r4⟩, Ap, cp⟩ := p
  simp only [Option.map_some] at hrs l0 l1 l2 l3 hpath hpl
  have HR := Lib.hid hrs
  have k0 := fun W (hW : Below w.heap.size w W) => (hW.cell (p := ⟨g, off + j * 4, none⟩) hg).trans l0
  have k1 := fun W (hW : Below w.heap.size w W) => (hW.cell (p := ⟨g, off + j * 4 + 1, none⟩) hg).trans l1
  have k2 := fun W (hW : Below w.heap.size w W) => (hW.cell (p := ⟨g, off + j * 4 + 2, none⟩) hg).trans l2
  have k3 := fun W (hW : Below w.heap.size w W) => (hW.cell (p := ⟨g, off + j * 4 + 3, none⟩) hg).trans l3
  have hclone := fun W (hW : Below w.heap.size w W) => clSt_k Ap r2.length cp r2 W (hpath.below hW) rfl (by omega)
  generalize hnp : r2.length = np at *
  have HNP := Lib.hid hnp
  clear hnp
  clear hrs h1 h2 h3 hp l0 l1 l2 l3 hlen
  unfold TpM.cells at *
  simp only [hA4] at hcall hcl hO ⊢
  go_enter Tryz.func76, Tryz.ntmps76
  go_wp2_with (first
   |(go_at_call 135; (with_reducible refine hcall.mono ?_); rintro e w1 ⟨rfl, hb1⟩; replace hO := hO.grow hb1; have hB1 := hb1; have hcl1 := hO.b0.cell; have m0 := k0 w1 hO.below; have m1 := k1 w1 hO.below; have m2 := k2 w1 hO.below; have m3 := k3 w1 hO.below)
   |(go_at_call 79; (with_reducible refine (hclone _ (Own.new3 hO 97 #[.int .i64 r1, .slice Ap np cp, .int .i64 r3, .int .i64 r4]).below).mono ?_); rintro e w2 ⟨A', c', rfl, ho, hb2⟩; replace hO := (Own.new3 hO 97 #[.int .i64 r1, .slice Ap np cp, .int .i64 r3, .int .i64 r4]).grow hb2)
   |((with_reducible refine own_cell3 1 (.slice A' np c') hO rfl 39 _ _ rfl rfl rfl (by kernel_rfl) ?_ rfl ?_); (· (simp; done)); intro wR hOR hszR hkR; replace hO := hOR; clear hOR; replace ho := ho.far (by simp) hkR; clear hkR hszR)
   |((with_reducible refine own_loadg3 hO ?_ _ rfl rfl _ Tryz.underlying97 rfl (by kernel_rfl) ?_); (· first | rfl | (simp [Region.wanted, yielded]; done)))
   |((with_reducible refine own_row2 (#[.int .i64 r1, .slice A' np c', .int .i64 r3, .int .i64 r4]) hO rfl _ _ rfl rfl rfl (by kernel_rfl) rfl ?_ ?_); (· first | rfl | (simp [Value.oneCell']; done)); intro wR hOR hszR hkR; replace hO := hOR; clear hOR; have hle := hO.below.size; replace ho := ho.far (by have := hB1.size; simp at this ⊢; omega) hkR; clear hkR hszR)
   )
  refine bodyPost_ret (results_ct1 Tryz.results76 _ _ _ _ _ _ rfl rfl hO.b2 Tryz.underlying97 rfl (by kernel_rfl)) rfl ?_
  unfold RetRt
  rw [← HR.out]
  have hs1 := hB1.size
  refine ⟨⟨A', c', ?_, ho.mono (by simp at hs1 ⊢; omega)⟩, hO.below⟩
  simp only [rtV, HNP.out]
  rfl
 ·
  rw [h2] at hrs
  have HR : Hid (routeT t id = none) := hrs.symm
  rw [h1] at hcall
  clear hrs h1 h2 hlen
  unfold TpM.cells at *
  go_enter Tryz.func76, Tryz.ntmps76
  go_wp2_with (first
   |(go_at_call 135; (with_reducible refine hcall.mono ?_); rintro e w1 ⟨rfl, hb1⟩; replace hO := hO.grow hb1)
   |((with_reducible refine own_row2 (#[.int .i64 0, .slice none 0 0, .int .i64 0, .int .i64 0]) hO rfl _ _ rfl rfl rfl (by kernel_rfl) rfl ?_ ?_); (· first | rfl | (simp [Value.oneCell']; done)); intro wR hOR hszR hkR; replace hO := hOR; clear hOR)
   )
  refine bodyPost_ret (results_ct1 Tryz.results76 _ _ _ _ _ _ rfl rfl hO.b2 Tryz.underlying97 rfl (by kernel_rfl)) rfl ?_
  unfold RetRt
  rw [HR.out]
  exact ⟨rfl, hO.below⟩
end Go.Proofs.YtkaggddmhjifjaaGreatDoor
