/- Texts in one: TopoRouted TopoCheckA. -/
import Derived.Test.YtkaggddmhjifjaaGreatDoorK08
set_option linter.unusedSimpArgs false
set_option linter.unusedVariables false
namespace Go.Proofs.YtkaggddmhjifjaaGreatDoor
open Go.RowKit Go.Shelf
theorem enter_routed1 : ∀ args w, (callFunc 174 args).run Tryz.prog w = .ok (.enter 174 args) w := enters_of Tryz.func174 (by kernel_rfl) (by rfl)
theorem enter_routed2 : ∀ args w, (callFunc 176 args).run Tryz.prog w = .ok (.enter 176 args) w := enters_of Tryz.func176 (by kernel_rfl) (by rfl)
theorem routed1_k (x : St) (e : Int) (g : Nat) (w : World) (hA : w.cell? ⟨g, 0, none⟩ = some (.int .i64 e)) (hb : g < w.heap.size) : Calls Tryz.prog 174 #[.agg (encSt.enc x).toArray, .pointer (some ⟨g, 0, none⟩)] w fun r w' => r = .returned (.bool (decide (x.edge = e))) ∧ Below w.heap.size w w' := by
 obtain ⟨x1, x2⟩ := x
 simp only [encSt]
 have hO : Own w _ [_] := (Own.nil w).alloc 95 #[.int .i64 x1, .bool x2] _ rfl
 have hcl := hO.b0.cell
 have hA2 := (hO.below.cell (p := ⟨g, 0, none⟩) hb).trans hA
 go_enter Tryz.func174, Tryz.ntmps174
 go_wp2_with fail
 go_ret
 refine ⟨?_, hO.below⟩
 by_cases h : x1 = e <;> simp [h]
theorem routed2_k (x : Bl) (e : Int) (g : Nat) (w : World) (hA : w.cell? ⟨g, 0, none⟩ = some (.int .i64 e)) (hb : g < w.heap.size) : Calls Tryz.prog 176 #[.agg (encBl.enc x).toArray, .pointer (some ⟨g, 0, none⟩)] w fun r w' => r = .returned (.bool (decide (x.edge = e))) ∧ Below w.heap.size w w' := by
 obtain ⟨x1, x2, x3⟩ := x
 simp only [encBl]
 have hO : Own w _ [_] := (Own.nil w).alloc 93 #[.int .i64 x1, .int .i64 x2, .int .i64 x3] _ rfl
 have hcl := hO.b0.cell
 have hA2 := (hO.below.cell (p := ⟨g, 0, none⟩) hb).trans hA
 go_enter Tryz.func176, Tryz.ntmps176
 go_wp2_with fail
 go_ret
 refine ⟨?_, hO.below⟩
 by_cases h : x2 = e <;> simp [h]
theorem apart_step {t : Tp} {p : List St} {k : Nat} {s : St} (h : p[k]? = some s) : apartE t (p.take k) (p.drop k) = (thereT t s.edge && !((p.take k).any fun x => decide (x.edge = s.edge)) && apartE t (p.take (k + 1)) (p.drop (k + 1))) := by
 rw [drop_cons h, take_snoc' h, apartE]
set_option maxRecDepth 8000 in
set_option maxHeartbeats 4000000 in
theorem routed_m {w : World} {t : Tp} {m : TpM} (h : TpIs w t m) (r : Rt) (A : Option Addr) (n c : Nat) (hp : RowsAt encSt w A r.path) (hn : r.path.length = n) (hl : n ≤ 100) (hc : n ≤ c) : Calls Tryz.prog 124 #[.agg m.cells, .agg #[.int .i64 r.id, .slice A n c, .int .i64 r.gap, .int .i64 r.timer]] w fun e w' => e = .returned (.int .i64 (routedE t r)) ∧ Below w.heap.size w w' := by
 have hO : Own w _ [_, _] := Own.start2 w 27 97 m.cells #[.int .i64 r.id, .slice A n c, .int .i64 r.gap, .int .i64 r.timer]
 have hcl := hO.b0.cell
 have hcr := hO.b1.cell
 have HN := Lib.hid hn
 have hr : routedE t r = if r.id < 1 ∨ n < 1 ∨ 8 < n then 1 else if apartE t [] r.path = false then 1 else if lenE t r.path ≠ 0 then lenE t r.path else if r.gap < 0 ∨ lenT t r.path ≤ r.gap ∨ r.timer < 1 ∨ 1000 < r.timer then 1 else if r.path.all (fun s => t.bals.any fun b => decide (b.edge = s.edge)) then 0 else 4 := by
  rw [← hn]
  rfl
 obtain ⟨id, p, gap, timer⟩ := r
 simp only at hr hp hn hcr hO hcl HN ⊢
 have HR := Lib.hid hr
 clear hr hn
 unfold TpM.cells at *
 by_cases hbad : id < 1 ∨ n < 1 ∨ 8 < n
 ·
  have HR' := HR.out
  rw [if_pos hbad] at HR'
  replace HR := Lib.hid HR'
  clear HR'
  rcases hbad with h1 | h1 | h1
  ·
   have e1 : decide (id < 1) = true := by simp; omega
   go_enter Tryz.func124, Tryz.ntmps124
   go_wp2
   go_ret
   exact ⟨by simp [HR.out], hO.below⟩
  ·
   by_cases h2 : id < 1
   ·
    have e1 : decide (id < 1) = true := by simp; omega
    go_enter Tryz.func124, Tryz.ntmps124
    go_wp2
    go_ret
    exact ⟨by simp [HR.out], hO.below⟩
   ·
    have e1 : decide (id < 1) = false := by simp; omega
    have e2 : decide ((n : Int) < 1) = true := by simp; omega
    go_enter Tryz.func124, Tryz.ntmps124
    go_wp2
    go_ret
    exact ⟨by simp [HR.out], hO.below⟩
  ·
   by_cases h2 : id < 1
   ·
    have e1 : decide (id < 1) = true := by simp; omega
    go_enter Tryz.func124, Tryz.ntmps124
    go_wp2
    go_ret
    exact ⟨by simp [HR.out], hO.below⟩
   ·
    have e1 : decide (id < 1) = false := by simp; omega
    have e2 : decide ((n : Int) < 1) = false := by simp; omega
    have e3 : decide (8 < (n : Int)) = true := by simp; omega
    go_enter Tryz.func124, Tryz.ntmps124
    go_wp2
    go_ret
    exact ⟨by simp [HR.out], hO.below⟩
 ·
  have HR' := HR.out
  rw [if_neg hbad] at HR'
  replace HR := Lib.hid HR'
  clear HR'
  have e1 : decide (id < 1) = false := by simp; omega
  have e2 : decide ((n : Int) < 1) = false := by simp; omega
  have e3 : decide (8 < (n : Int)) = false := by simp; omega
  go_enter Tryz.func124, Tryz.ntmps124
  go_wp2
  go_loopw [30] (fun i wr => ∃ k : Nat, i = .int .i64 k ∧ k ≤ n ∧ Hid (apartE t [] p = apartE t (p.take k) (p.drop k)) ∧ Own w wr [(w.heap.size, 27, #[.slice m.A1 m.n1 m.c1, .slice m.A2 m.n2 m.c2, .slice m.A3 m.n3 m.c3, .slice m.A4 m.n4 m.c4]), (w.heap.size + 1, 97, #[.int .i64 id, .slice A n c, .int .i64 gap, .int .i64 timer])]) (fun i _ => n - (intOf i).toNat)
  case atStart => exact ⟨0, rfl, Nat.zero_le _, Lib.hid (by simp), hO⟩
  case round =>
   clear hO hcl hcr
   obtain ⟨k, rfl, hk, hap, hO⟩ := hrel
   have hcl := hO.b0.cell
   have hcr := hO.b1.cell
   by_cases hlt : k < n
   ·
    obtain ⟨s, hs⟩ := get_some HN.out hlt
    obtain ⟨g, off, rfl, hg, a0, a1⟩ := hp.st hs
    have kk0 := (hO.below.cell (p := ⟨g, off + k * 2, none⟩) hg).trans a0
    have kk1 := (hO.below.cell (p := ⟨g, off + k * 2 + 1, none⟩) hg).trans a1
    have hm := fun W => there_m h s.edge W
    have hstep := apart_step (t := t) hs
    rw [← hap.out] at hstep
    have hO1 := Own.new2 hO 95 #[.int .i64 s.edge, .bool s.rev]
    have hcm := hO1.b0.cell
    have hcn := hO1.b1.cell
    have hco := hO1.b2.cell
    have hany := fun W (hW : Below (wr.heap.size + 1) (wr.alloc (.cells #[.int .i64 s.edge, .bool s.rev] 95)) W) (hB : Below w.heap.size w W) => anySt_k 174 enter_routed1 #[.pointer (some ⟨wr.heap.size, 0, none⟩)] (fun x => decide (x.edge = s.edge)) (some ⟨g, off, none⟩) k c (p.take k) W
     (fun W' x hW' => (routed1_k x s.edge wr.heap.size W' ((hW'.cell (p := ⟨wr.heap.size, 0, none⟩) (by have := hW.size; simp at this; simp; omega)).trans ((hW.cell (p := ⟨wr.heap.size, 0, none⟩) (by simp)).trans (hco 0))) (by have := hW.size; have := hW'.size; simp at *; omega)).mono fun _ _ h => ⟨h.1, below_then hW' h.2⟩) ((hp.part k).below hB) (by rw [List.length_take, HN.out]; omega) (by omega)
    clear hs a0 a1
    generalize thereT t s.edge = th at *
    generalize ((p.take k).any fun x => decide (x.edge = s.edge)) = an at *
    simp only [TpM.cells] at hm
    obtain ⟨x1, x2⟩ := s
    cases th with
    | false =>
     have hap' : apartE t [] p = false := by rw [hstep]; rfl
     have HR' := HR.out
     rw [if_pos hap'] at HR'
     replace HR := Lib.hid HR'
     clear HR' hstep hap' hany
     go_wp2_with (first
      |(go_at_call 123; (with_reducible refine (hm _).mono ?_); rintro e w1 ⟨rfl, hb1⟩; replace hO := hO1.grow hb1))
     go_ret
     exact ⟨by simp [HR.out], hO.below⟩
    | true =>
     cases an with
     | true =>
      have hap' : apartE t [] p = false := by rw [hstep]; rfl
      have HR' := HR.out
      rw [if_pos hap'] at HR'
      replace HR := Lib.hid HR'
      clear HR' hstep hap'
      go_wp2_with (first
       |(go_at_call 123; (with_reducible refine (hm _).mono ?_); rintro e w1 ⟨rfl, hb1⟩; replace hO := hO1.grow hb1; have hcl1 := hO.b0.cell; have hcr1 := hO.b1.cell; have hB1 := hb1)
       |(go_at_call 131; (with_reducible refine (hany _ (by simpa using hB1) hO.below).mono ?_); rintro e w2 ⟨rfl, hb2⟩; replace hO := hO.grow hb2))
      go_ret
      exact ⟨by simp [HR.out], hO.below⟩
     | false =>
      have hap' := hap.out.trans (hap.out.symm.trans hstep)
      simp only [Bool.not_false, Bool.true_and, Bool.and_true] at hap'
      have HAP := Lib.hid hap'
      clear hstep hap' hap
      go_wp2_with (first
       |(go_at_call 123; (with_reducible refine (hm _).mono ?_); rintro e w1 ⟨rfl, hb1⟩; replace hO := hO1.grow hb1; have hcl1 := hO.b0.cell; have hcr1 := hO.b1.cell; have hB1 := hb1)
       |(go_at_call 131; (with_reducible refine (hany _ (by simpa using hB1) hO.below).mono ?_); rintro e w2 ⟨rfl, hb2⟩; replace hO := hO.grow hb2))
      go_roundw
      case rel => exact ⟨k + 1, by go_num, by omega, HAP, ⟨hO.below, fun x hx => hO.blk x (by simp at hx; rcases hx with rfl | rfl <;> simp), by simp⟩⟩
      case measure => simp [intOf]; omega
   ·
    obtain rfl : k = n := by omega
    have hap' : apartE t [] p = true := by
     rw [hap.out, List.drop_of_length_le (by rw [HN.out]; exact Nat.le_refl _)]
     rfl
    have HR' := HR.out
    rw [if_neg (by rw [hap']; simp)] at HR'
    clear hap' hap
    have hlen := fun W (hW : Below w.heap.size w W) => len_m (h.below hW) A k c p (hp.below hW) HN.out hl
    simp only [TpM.cells] at hlen
    generalize lenT t p = lt at *
    by_cases hle : lenE t p = 0
    ·
     rw [hle] at HR' hlen
     clear hle
     rw [if_neg (by simp)] at HR'
     by_cases g1 : gap < 0
     ·
      rw [if_pos (.inl g1)] at HR'
      replace HR := Lib.hid HR'
      clear HR'
      have f1 : decide (gap < 0) = true := by simp; omega
      go_wp2_with (first
       |(go_at_call 107; (with_reducible refine (hlen _ hO.below).mono ?_); rintro e w1 ⟨rfl, hb1⟩; replace hO := hO.grow hb1; have hcl1 := hO.b0.cell; have hcr1 := hO.b1.cell))
      go_ret
      exact ⟨by simp [HR.out], hO.below⟩
     have f1 : decide (gap < 0) = false := by simp; omega
     by_cases g2 : lt ≤ gap
     ·
      rw [if_pos (.inr (.inl g2))] at HR'
      replace HR := Lib.hid HR'
      clear HR'
      have f2 : decide (lt ≤ gap) = true := by simp; omega
      go_wp2_with (first
       |(go_at_call 107; (with_reducible refine (hlen _ hO.below).mono ?_); rintro e w1 ⟨rfl, hb1⟩; replace hO := hO.grow hb1; have hcl1 := hO.b0.cell; have hcr1 := hO.b1.cell))
      go_ret
      exact ⟨by simp [HR.out], hO.below⟩
     have f2 : decide (lt ≤ gap) = false := by simp; omega
     by_cases g3 : timer < 1
     ·
      rw [if_pos (.inr (.inr (.inl g3)))] at HR'
      replace HR := Lib.hid HR'
      clear HR'
      have f3 : decide (timer < 1) = true := by simp; omega
      go_wp2_with (first
       |(go_at_call 107; (with_reducible refine (hlen _ hO.below).mono ?_); rintro e w1 ⟨rfl, hb1⟩; replace hO := hO.grow hb1; have hcl1 := hO.b0.cell; have hcr1 := hO.b1.cell))
      go_ret
      exact ⟨by simp [HR.out], hO.below⟩
     have f3 : decide (timer < 1) = false := by simp; omega
     by_cases g4 : 1000 < timer
     ·
      rw [if_pos (.inr (.inr (.inr g4)))] at HR'
      replace HR := Lib.hid HR'
      clear HR'
      have f4 : decide (1000 < timer) = true := by simp; omega
      go_wp2_with (first
       |(go_at_call 107; (with_reducible refine (hlen _ hO.below).mono ?_); rintro e w1 ⟨rfl, hb1⟩; replace hO := hO.grow hb1; have hcl1 := hO.b0.cell; have hcr1 := hO.b1.cell))
      go_ret
      exact ⟨by simp [HR.out], hO.below⟩
     have f4 : decide (1000 < timer) = false := by simp; omega
     rw [if_neg (by omega)] at HR'
     replace HR := Lib.hid HR'
     clear HR'
     go_wp2_with (first
       |(go_at_call 107; (with_reducible refine (hlen _ hO.below).mono ?_); rintro e w1 ⟨rfl, hb1⟩; replace hO := hO.grow hb1; have hcl1 := hO.b0.cell; have hcr1 := hO.b1.cell))
     clear hlen hcl hcr hcl1 hcr1
     go_loopw [82] (fun i wr => ∃ j : Nat, i = .int .i64 j ∧ j ≤ k ∧ Hid (∀ (i : Nat) s, i < j → p[i]? = some s → (t.bals.any fun b => decide (b.edge = s.edge)) = true) ∧ Own w wr [(w.heap.size, 27, #[.slice m.A1 m.n1 m.c1, .slice m.A2 m.n2 m.c2, .slice m.A3 m.n3 m.c3, .slice m.A4 m.n4 m.c4]), (w.heap.size + 1, 97, #[.int .i64 id, .slice A k c, .int .i64 gap, .int .i64 timer])]) (fun i _ => k - (intOf i).toNat)
     case atStart => exact ⟨0, rfl, Nat.zero_le _, Lib.hid (fun i s hi => by omega), hO⟩
     case round =>
      clear hO
      obtain ⟨j, rfl, hj, hall, hO⟩ := hrel
      have hcl := hO.b0.cell
      have hcr := hO.b1.cell
      by_cases hlt2 : j < k
      ·
       obtain ⟨s, hs⟩ := get_some HN.out hlt2
       obtain ⟨g, off, rfl, hg, a0, a1⟩ := hp.st hs
       have kk0 := (hO.below.cell (p := ⟨g, off + j * 2, none⟩) hg).trans a0
       have kk1 := (hO.below.cell (p := ⟨g, off + j * 2 + 1, none⟩) hg).trans a1
       have hO1 := Own.new2 hO 95 #[.int .i64 s.edge, .bool s.rev]
       have hcm := hO1.b0.cell
       have hcn := hO1.b1.cell
       have hco := hO1.b2.cell
       have hl3 := h.l3
       have hany := anyBl_k 176 enter_routed2 #[.pointer (some ⟨wr.heap.size, 0, none⟩)] (fun x => decide (x.edge = s.edge)) m.A3 m.n3 m.c3 t.bals _
        (fun W' x hW' => (routed2_k x s.edge wr.heap.size W' ((hW'.cell (p := ⟨wr.heap.size, 0, none⟩) hO1.b2.lt).trans (hco 0)) (Nat.lt_of_lt_of_le hO1.b2.lt hW'.size)).mono fun _ _ h => ⟨h.1, below_then hW' h.2⟩) (h.lies.bals.below hO1.below) h.e3 (by omega)
       have HS := Lib.hid hs
       clear hs a0 a1
       cases han : (t.bals.any fun x => decide (x.edge = s.edge)) with
       | false =>
        have hf : (p.all fun s => t.bals.any fun b => decide (b.edge = s.edge)) = false := by
         rw [List.all_eq_false]
         exact ⟨s, List.mem_of_getElem? HS.out, by rw [han]; simp⟩
        have HR' := HR.out
        rw [hf] at HR'
        replace HR := Lib.hid HR'
        rw [han] at hany
        clear HR' hf han
        obtain ⟨x1, x2⟩ := s
        dsimp only at hany
        go_wp2_with (first
         |(go_at_call 175; (with_reducible refine hany.mono ?_); rintro e w2 ⟨rfl, hb2⟩; replace hO := hO1.grow hb2))
        go_ret
        exact ⟨by simp [HR.out], hO.below⟩
       | true =>
        have hall' := Lib.hid (fun (i : Nat) s' (hi : i < j + 1) (h1 : p[i]? = some s') => show (t.bals.any fun b => decide (b.edge = s'.edge)) = true by
         rcases Nat.lt_or_ge i j with g | g
         ·
          exact hall.out i s' g h1
         ·
          obtain rfl : i = j := by omega
          rw [HS.out] at h1
          cases h1
          exact han)
        rw [han] at hany
        clear han hall
        obtain ⟨x1, x2⟩ := s
        dsimp only at hany
        go_wp2_with (first
         |(go_at_call 175; (with_reducible refine hany.mono ?_); rintro e w2 ⟨rfl, hb2⟩; replace hO := hO1.grow hb2))
        go_roundw
        case rel => exact ⟨j + 1, by go_num, by omega, hall', ⟨hO.below, fun x hx => hO.blk x (by simp at hx; rcases hx with rfl | rfl <;> simp), by simp⟩⟩
        case measure => simp [intOf]; omega
      ·
       obtain rfl : j = k := by omega
       have hf : (p.all fun s => t.bals.any fun b => decide (b.edge = s.edge)) = true := by
        rw [List.all_eq_true]
        intro s hs
        obtain ⟨i, hi⟩ := List.getElem?_of_mem hs
        exact hall.out i s (by have := (List.getElem?_eq_some_iff.1 hi).1; have := HN.out; omega) hi
       have HR' := HR.out
       rw [hf] at HR'
       replace HR := Lib.hid HR'
       clear HR' hf
       go_wp2_with fail
       go_ret
       exact ⟨by simp [HR.out], hO.below⟩
    ·
     rw [if_pos hle] at HR'
     replace HR := Lib.hid HR'
     clear HR'
     generalize lenE t p = le at *
     have hne : (le != 0) = true := by simpa using hle
     clear hle
     go_wp2_with (first
      |(go_at_call 107; (with_reducible refine (hlen _ hO.below).mono ?_); rintro e w1 ⟨rfl, hb1⟩; replace hO := hO.grow hb1))
     go_ret
     exact ⟨by simp [HR.out], hO.below⟩
end Go.Proofs.YtkaggddmhjifjaaGreatDoor
set_option linter.unusedSimpArgs false
set_option linter.unusedVariables false
namespace Go.Proofs.YtkaggddmhjifjaaGreatDoor
open Go.RowKit Go.Shelf
theorem enter_check1 : ∀ args w, (callFunc 120 args).run Tryz.prog w = .ok (.enter 120 args) w := enters_of Tryz.func120 (by kernel_rfl) (by rfl)
theorem check1_k (n : Int) (w : World) : Calls Tryz.prog 120 #[.int .i64 n] w fun r w' => r = .returned (.bool (decide (n < 1) || decide (1000000 < n))) ∧ w' = w := by
 by_cases h1 : n < 1
 ·
  have e1 : decide (n < 1) = true := by simpa using h1
  go_enter Tryz.func120, Tryz.ntmps120
  go_wp2
  go_ret
  exact ⟨by simp [h1], rfl⟩
 ·
  have e1 : decide (n < 1) = false := by simpa using h1
  go_enter Tryz.func120, Tryz.ntmps120
  go_wp2
  go_ret
  exact ⟨by simp [h1], rfl⟩
theorem run_eql_en (a b : En) (W : World) : (binOp .eql 89 (enV a) (enV b)).run Tryz.prog W = .ok (.bool (decide (a = b))) W := by
 have u3 := Tryz.underlying3
 have a3 := Tryz.isAgg3
 have z3 := Tryz.sizeOf3
 have hSE : Tryz.prog.underlying 89 = some (.struct (Tryz.prog.fieldsOf 89)) := by kernel_rfl
 have hpE : Tryz.prog.stoodInHeld 89 = false := by kernel_rfl
 rw [run_eql_struct, show (10000 : Nat) = 9999 + 1 from rfl]
 have hE := run_equalIn_agg (P := Tryz.prog) W 9999 89 #[.int .i64 a.edge, .int .i64 a.at_] #[.int .i64 b.edge, .int .i64 b.at_] hSE hpE
 simp only [Program.fieldsOf, Tryz.underlying89] at hE
 rw [hE]
 go_simp
 obtain ⟨x1, x2⟩ := a
 obtain ⟨y1, y2⟩ := b
 by_cases h1 : x1 = y1 <;> by_cases h2 : x2 = y2 <;> simp [h1, h2]
theorem joints_step {t : Tp} {k : Nat} {j : Jt} (h : t.joints[k]? = some j) : jointsE t (t.joints.take k) (t.joints.drop k) = if endT t j.a = false ∨ endT t j.b = false ∨ j.a = j.b then 1 else if joinsT (t.joints.take k) j.a j.b then 5 else jointsE t (t.joints.take (k + 1)) (t.joints.drop (k + 1)) := by
 rw [drop_cons h, take_snoc' h, jointsE]
theorem bals_step {t : Tp} {k : Nat} {b : Bl} (h : t.bals[k]? = some b) : balsE t (t.bals.take k) (t.bals.drop k) = if b.id < 0 ∨ 16777214 < b.id ∨ thereT t b.edge = false ∨ b.at_ < 0 ∨ edgeT t b.edge < b.at_ then 1 else if (t.bals.take k).any (fun x => decide (x.id = b.id)) then 5 else balsE t (t.bals.take (k + 1)) (t.bals.drop (k + 1)) := by
 rw [drop_cons h, take_snoc' h, balsE]
theorem routes_step {t : Tp} {k : Nat} {r : Rt} (h : t.routes[k]? = some r) : routesE t (t.routes.take k) (t.routes.drop k) = if routedE t r ≠ 0 then routedE t r else if (t.routes.take k).any (fun x => decide (x.id = r.id)) then 5 else routesE t (t.routes.take (k + 1)) (t.routes.drop (k + 1)) := by
 rw [drop_cons h, take_snoc' h, routesE]
theorem find_any {α : Type} (l : List α) (q : α → Bool) : (l.find? q).isSome = l.any q := by
 induction l with
 | nil => rfl
 | cons x l ih =>
  rw [List.find?_cons, List.any_cons]
  cases q x <;> simp [ih]
theorem sub_joints {w : World} {t : Tp} {m : TpM} (h : TpIs w t m) (k : Nat) (hk : k ≤ m.n2) : TpIs w ⟨[], t.joints.take k, [], []⟩ ⟨none, 0, 0, m.A2, k, m.c2, none, 0, 0, none, 0, 0, []⟩ :=
 ⟨⟨RowsAt.nil _ _, h.lies.joints.part k, RowsAt.nil _ _, RowsAt.nil _ _, rfl, by simp⟩, rfl, by simp only [List.length_take]; have := h.e2; omega, rfl, rfl, by simp, by have := h.l2; simp only; omega, by simp, by simp, by simp, by simp, by have := h.q2; simp only; omega, by simp, by simp, by simp⟩
theorem sub_bals {w : World} {t : Tp} {m : TpM} (h : TpIs w t m) (k : Nat) (hk : k ≤ m.n3) : TpIs w ⟨[], [], t.bals.take k, []⟩ ⟨none, 0, 0, none, 0, 0, m.A3, k, m.c3, none, 0, 0, []⟩ :=
 ⟨⟨RowsAt.nil _ _, RowsAt.nil _ _, h.lies.bals.part k, RowsAt.nil _ _, rfl, by simp⟩, rfl, rfl, by simp only [List.length_take]; have := h.e3; omega, rfl, by simp, by simp, by have := h.l3; simp only; omega, by simp, by simp, by simp, by simp, by have := h.q3; simp only; omega, by simp, by simp⟩
theorem sub_routes {w : World} {t : Tp} {m : TpM} (h : TpIs w t m) (k : Nat) (hk : k ≤ m.n4) : TpIs w ⟨[], [], [], t.routes.take k⟩ ⟨none, 0, 0, none, 0, 0, none, 0, 0, m.A4, k, m.c4, m.rs.take k⟩ :=
 ⟨⟨RowsAt.nil _ _, RowsAt.nil _ _, RowsAt.nil _ _, h.lies.routes.part k, by rw [List.map_take, h.lies.is], fun p hp => h.lies.paths p (List.mem_of_mem_take hp)⟩, rfl, rfl, rfl, by simp only [List.length_take]; have := h.e4; omega, by simp, by simp, by simp, by have := h.l4; simp only; omega, fun r hr => h.l5 r (List.mem_of_mem_take hr), by simp, by simp, by simp, by have := h.q4; simp only; omega, fun p hp => h.q5 p (List.mem_of_mem_take hp)⟩
theorem route_ok {w : World} {t : Tp} {m : TpM} (h : TpIs w t m) (id : Int) : Calls Tryz.prog 76 #[.agg m.cells, .int .i64 id] w fun e w' => (∃ x : Array Value, e = .returned (.tuple #[.agg x, .bool (routeT t id).isSome]) ∧ x.size = 4 ∧ x.all (·.oneCell') = true) ∧ Below w.heap.size w w' := by
 refine (route_m h id).mono ?_
 rintro e w' ⟨h1, hb⟩
 refine ⟨?_, hb⟩
 cases hr : routeT t id with
 | none =>
  rw [hr] at h1
  exact ⟨_, h1, rfl, by simp [Value.oneCell']⟩
 | some r =>
  rw [hr] at h1
  obtain ⟨A, c, h1, _⟩ := h1
  exact ⟨_, h1, rfl, by simp [Value.oneCell']⟩
end Go.Proofs.YtkaggddmhjifjaaGreatDoor
