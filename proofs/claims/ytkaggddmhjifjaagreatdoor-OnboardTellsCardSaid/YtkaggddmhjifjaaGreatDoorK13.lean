/- Texts in one: PlaceB BoardC BoardA. -/
import Derived.Test.YtkaggddmhjifjaaGreatDoorK11
import Derived.Test.YtkaggddmhjifjaaGreatDoorK12
set_option linter.unusedSimpArgs false
set_option linter.unusedVariables false
namespace Go.Proofs.YtkaggddmhjifjaaGreatDoor
open Go.RowKit Go.Shelf
set_option maxRecDepth 8000 in
set_option maxHeartbeats 4000000 in
theorem over_m {w : World} {t : Tp} {m : TpM} (h : TpIs w t m) (s : St) (n : Int) (hc : checkT t = 0) (hs : thereT t s.edge = true) (h0 : 0 ≤ n) (h1 : n ≤ 4398046511104) : Calls Tryz.prog 156 #[.agg m.cells, stV s, .int .i64 n] w fun e w' => e = .returned (psV (overT t s n)) ∧ Below w.heap.size w w' := by
 have hO : Own w _ [_, _, _] := Own.start3 w 27 95 38 m.cells #[.int .i64 s.edge, .bool s.rev] #[.int .i64 0, .int .i64 0, .bool false]
 have hcl := hO.b0.cell
 have hcp := hO.b1.cell
 obtain ⟨i, ev, g, off, hi, hin, hie, hA1, hke, hev⟩ := edge_at h hs
 have hmax := check_edges hc ev hev
 have hr : overT t s n = ⟨s.edge, if s.rev then ev - n else n, s.rev⟩ := by unfold overT; rw [hie]
 rw [hr]
 obtain ⟨pe, pr⟩ := s
 simp only at hi hO hcl hcp ⊢
 subst hi
 clear hr hs hc hie hev
 simp only [TpM.cells, hA1] at hcl hO ⊢
 have ke0 := hke _ hO.below
 cases pr with
 | false =>
  go_enter Tryz.func156, Tryz.ntmps156
  go_wp2_with (first
   | fail
   |((with_reducible refine own_row2 (#[.int .i64 i, .int .i64 n, .bool false]) hO rfl _ _ rfl rfl rfl (by kernel_rfl) rfl ?_ ?_); (· first | rfl | (simp [Value.oneCell']; done)); intro wR hOR hszR hkR; replace hO := hOR; clear hOR)
   )
  exact bodyPost_ret (results_c Tryz.results156 _ _ _ _ _ rfl hO.b2 Tryz.underlying38 rfl (by kernel_rfl)) rfl ⟨rfl, hO.below⟩
 | true =>
  go_enter Tryz.func156, Tryz.ntmps156
  go_wp2_with (first
   | fail
   |((with_reducible refine own_row2 (#[.int .i64 i, .int .i64 (ev - n), .bool true]) hO rfl _ _ rfl rfl rfl (by kernel_rfl) rfl ?_ ?_); (· first | rfl | (simp [Value.oneCell']; done)); intro wR hOR hszR hkR; replace hO := hOR; clear hOR)
   )
  exact bodyPost_ret (results_c Tryz.results156 _ _ _ _ _ rfl hO.b2 Tryz.underlying38 rfl (by kernel_rfl)) rfl ⟨rfl, hO.below⟩
theorem ahead_drop {t : Tp} {x : St} {p : List St} {k : Nat} {s : St} {n : Int} (h : p[k]? = some s) : aheadT t x (p.drop k) n = if s = x then some n else aheadT t x (p.drop (k + 1)) (n + edgeT t s.edge) := by
 rw [drop_cons h, aheadT]
set_option maxRecDepth 8000 in
set_option maxHeartbeats 4000000 in
theorem on_m {w : World} {t : Tp} {m : TpM} (h : TpIs w t m) (A : Option Addr) (n c : Nat) (path : List St) (p : Ps) (hp : RowsAt encSt w A path) (hn : path.length = n) (hl : n ≤ 100) : Calls Tryz.prog 56 #[.agg m.cells, .slice A n c, psV p] w fun e w' => e = .returned (.tuple #[.int .i64 (onT t path p).1, .int .i64 (onT t path p).2]) ∧ Below w.heap.size w w' := by
 have hO : Own w _ [_, _] := Own.start2 w 27 38 m.cells #[.int .i64 p.edge, .int .i64 p.at_, .bool p.rev]
 have hcl := hO.b0.cell
 have hcp := hO.b1.cell
 have hri := fun W (hW : Below w.heap.size w W) => right_m (h.below hW) p
 have hle := fun W (hW : Below w.heap.size w W) => len_m (h.below hW) A n c path (hp.below hW) hn hl
 have hal := fun W (hW : Below w.heap.size w W) => along_m (h.below hW) p
 have hr : onT t path p = if rightT t p = false then (0, 1) else if lenE t path ≠ 0 then (0, lenE t path) else match aheadT t ⟨p.edge, p.rev⟩ path 0 with
  | none => (0, 4)
  | some n => (n + alongT t p, 0) := rfl
 have HN := Lib.hid hn
 generalize hon : onT t path p = on at *
 clear hon hn
 by_cases h1 : rightT t p = true
 ·
  rw [if_neg (by rw [h1]; simp)] at hr
  have hbound : 0 ≤ alongT t p ∧ alongT t p ≤ 1000000 := by
   obtain ⟨r1, r2, r3, r4⟩ := right_parts h1
   obtain ⟨i, ev, _, _, _, _, hie, _, _, hev⟩ := edge_at h r2
   have hmax := check_edges r1 ev hev
   rw [hie] at r4
   unfold alongT
   rw [hie]
   split <;> omega
  have hck := (right_parts h1).1
  rw [h1] at hri
  replace hal := fun W (hW : Below w.heap.size w W) => hal W hW h1
  generalize alongT t p = al at *
  generalize lenT t path = lt at *
  by_cases h2 : lenE t path = 0
  ·
   rw [if_neg (by rw [h2]; simp)] at hr
   have hok := len_ok h2
   rw [h2] at hle
   clear h1 h2
   have HR := Lib.hid hr
   clear hr
   obtain ⟨pe, pa, pr⟩ := p
   simp only [TpM.cells] at hO hcl hcp hri hle hal ⊢
   go_enter Tryz.func56, Tryz.ntmps56
   go_wp2_with (first
    |(go_at_call 48; (with_reducible refine (hri _ hO.below).mono ?_); rintro e w1 ⟨rfl, hb1⟩; replace hO := hO.grow hb1; have hcl1 := hO.b0.cell; have hcp1 := hO.b1.cell)
    |(go_at_call 107; (with_reducible refine (hle _ hO.below).mono ?_); rintro e w2 ⟨rfl, hb2⟩; replace hO := hO.grow hb2; have hcl2 := hO.b0.cell; have hcp2 := hO.b1.cell))
   clear hcl hcp hcl1 hcp1 hcl2 hcp2 hri hle
   go_loopw [10, 28] (fun a i wr => ∃ (k : Nat) (x : Int), i = .int .i64 k ∧ k ≤ n ∧ a = .int .i64 x ∧ 0 ≤ x ∧ x ≤ 1000000 * k ∧ Hid (aheadT t ⟨pe, pr⟩ path 0 = aheadT t ⟨pe, pr⟩ (path.drop k) x) ∧ Own w wr [(w.heap.size, 27, #[.slice m.A1 m.n1 m.c1, .slice m.A2 m.n2 m.c2, .slice m.A3 m.n3 m.c3, .slice m.A4 m.n4 m.c4]), (w.heap.size + 1, 38, #[.int .i64 pe, .int .i64 pa, .bool pr])]) (fun _ i _ => n - (intOf i).toNat)
   case atStart => exact ⟨0, 0, rfl, Nat.zero_le _, rfl, by omega, by omega, Lib.hid (by simp), hO⟩
   case round =>
    clear hO
    obtain ⟨k, x, rfl, hk, rfl, hx0, hx1, hap, hO⟩ := hrel
    have hcl := hO.b0.cell
    have hcp := hO.b1.cell
    by_cases hlt : k < n
    ·
     obtain ⟨s, hs⟩ := get_some HN.out hlt
     obtain ⟨g, off, rfl, hg, a0, a1⟩ := hp.st hs
     have kk0 := (hO.below.cell (p := ⟨g, off + k * 2, none⟩) hg).trans a0
     have kk1 := (hO.below.cell (p := ⟨g, off + k * 2 + 1, none⟩) hg).trans a1
     have hth := hok.2.2.1 s (List.mem_of_getElem? hs)
     obtain ⟨i, ev, ge, offe, hi, hin, hie, hA1, hke, hev⟩ := edge_at h hth
     have hmax := check_edges hck ev hev
     have hstep := ahead_drop (t := t) (x := ⟨pe, pr⟩) (n := x) hs
     rw [← hap.out, hie] at hstep
     have heq := run_eql_st s ⟨pe, pr⟩
     obtain ⟨x1, x2⟩ := s
     simp only at hi kk0 kk1 heq
     subst hi
     simp only [hA1] at hO hcl hal ⊢
     have hO1 := Own.new2 hO 95 #[.int .i64 i, .bool x2]
     have hcm := hO1.b0.cell
     have hcn := hO1.b1.cell
     have hco := hO1.b2.cell
     have ke1 := hke _ hO1.below
     clear hs a0 a1 hth hie hev
     obtain ⟨sm, hsm⟩ : ∃ b, b = decide ((⟨i, x2⟩ : St) = ⟨pe, pr⟩) := ⟨_, rfl⟩
     rw [← hsm] at heq
     cases sm with
     | true =>
      rw [if_pos (by simpa using hsm.symm)] at hstep
      have HR' := HR.out
      rw [hstep] at HR'
      replace HR := Lib.hid HR'
      clear HR' hstep hap hsm
      go_wp2_with (first
       |(go_at_call 108; (with_reducible refine (hal _ hO1.below).mono ?_); rintro e w1 ⟨rfl, hb1⟩; replace hO := hO1.grow hb1))
      go_ret2
      exact ⟨by simp [HR.out], hO.below⟩
     | false =>
      rw [if_neg (by simpa using hsm.symm)] at hstep
      have HS := Lib.hid hstep
      clear hstep hap hsm
      go_wp2_with fail
      go_roundw
      case rel => exact ⟨k + 1, x + ev, by go_num, by omega, rfl, by omega, by push_cast; omega, HS, ⟨hO1.below, fun x hx => hO1.blk x (by simp at hx; rcases hx with rfl | rfl <;> simp), by simp⟩⟩
      case measure => simp [intOf]; omega
    ·
     obtain rfl : k = n := by omega
     have hap' : aheadT t ⟨pe, pr⟩ path 0 = none := by
      rw [hap.out, List.drop_of_length_le (by rw [HN.out]; exact Nat.le_refl _)]
      rfl
     have HR' := HR.out
     rw [hap'] at HR'
     replace HR := Lib.hid HR'
     clear HR' hap' hap
     go_wp2_with fail
     go_ret2
     exact ⟨by simp [HR.out], hO.below⟩
  ·
   rw [if_pos h2] at hr
   have HR := Lib.hid hr
   generalize lenE t path = le at *
   have hne : (le != 0) = true := by simpa using h2
   clear hr h2 h1 hal
   obtain ⟨pe, pa, pr⟩ := p
   simp only [TpM.cells] at hO hcl hcp hri hle ⊢
   go_enter Tryz.func56, Tryz.ntmps56
   go_wp2_with (first
    |(go_at_call 48; (with_reducible refine (hri _ hO.below).mono ?_); rintro e w1 ⟨rfl, hb1⟩; replace hO := hO.grow hb1; have hcl1 := hO.b0.cell; have hcp1 := hO.b1.cell)
    |(go_at_call 107; (with_reducible refine (hle _ hO.below).mono ?_); rintro e w2 ⟨rfl, hb2⟩; replace hO := hO.grow hb2))
   go_ret2
   exact ⟨by simp [HR.out], hO.below⟩
 ·
  rw [if_pos (by simpa using h1)] at hr
  have h1' : rightT t p = false := by simpa using h1
  rw [h1'] at hri
  have HR := Lib.hid hr
  clear hr h1 h1' hal hle
  obtain ⟨pe, pa, pr⟩ := p
  simp only [TpM.cells] at hO hcl hcp hri ⊢
  go_enter Tryz.func56, Tryz.ntmps56
  go_wp2_with (first
   |(go_at_call 48; (with_reducible refine (hri _ hO.below).mono ?_); rintro e w1 ⟨rfl, hb1⟩; replace hO := hO.grow hb1))
  go_ret2
  exact ⟨by simp [HR.out], hO.below⟩
end Go.Proofs.YtkaggddmhjifjaaGreatDoor
set_option linter.unusedSimpArgs false
set_option linter.unusedVariables false
namespace Go.Proofs.YtkaggddmhjifjaaGreatDoor
open Go.RowKit Go.Shelf
def backR (t : Tp) (m : Ma) : Int × Bool := match balT t m.ref with
 | none => (0, false)
 | some b => ((onT t m.path (placeB b m.rev)).1, decide ((onT t m.path (placeB b m.rev)).2 = 0))
theorem back_is (t : Tp) (m : Ma) : backX t m = if (backR t m).2 = true then some (backR t m).1 else none := by
 unfold backX backR
 cases balT t m.ref with
 | none => rfl
 | some b => simp
set_option maxRecDepth 8000 in
set_option maxHeartbeats 4000000 in
theorem back_m {w : World} {t : Tp} {m : TpM} (h : TpIs w t m) (ma : Ma) (v : MaM) (hm : MaIs w ma v) : Calls Tryz.prog 55 #[.agg m.cells, .agg (maC ma v)] w fun e w' => e = .returned (.tuple #[.int .i64 (backR t ma).1, .bool (backR t ma).2]) ∧ Below w.heap.size w w' := by
 have hO : Own w _ [_, _] := Own.start2 w 27 42 m.cells (maC ma v)
 have hcl := hO.b0.cell
 have hcm := hO.b1.cell
 have hbal := fun W (hW : Below w.heap.size w W) => bal_m (h.below hW) ma.ref
 have hon := fun W (hW : Below w.heap.size w W) p => on_m (h.below hW) v.A1 v.n1 v.c1 ma.path p (hm.path.below hW) hm.e1 hm.l1
 have hr : backR t ma = match balT t ma.ref with
  | none => (0, false)
  | some b => ((onT t ma.path (placeB b ma.rev)).1, decide ((onT t ma.path (placeB b ma.rev)).2 = 0)) := rfl
 generalize backR t ma = br at *
 unfold maC at *
 cases hb : balT t ma.ref with
 | none =>
  rw [hb] at hr hbal
  simp only [Option.getD_none, Option.isSome_none] at hbal
  obtain rfl : br = (0, false) := hr
  clear hb hon
  unfold TpM.cells at *
  go_enter Tryz.func55, Tryz.ntmps55
  go_wp2_with (first
   |(go_at_call 50; (with_reducible refine (hbal _ hO.below).mono ?_); rintro e w1 ⟨rfl, hb1⟩; replace hO := hO.grow hb1))
  go_ret2
  exact ⟨rfl, below_then hO.below ((Below.refl _ _).alloc (Nat.le_refl _) _)⟩
 | some b =>
  rw [hb] at hr hbal
  simp only [Option.getD_some, Option.isSome_some] at hbal hr
  replace hon := fun W hW => hon W hW (placeB b ma.rev)
  obtain ⟨b1, b2, b3⟩ := b
  simp only [placeB] at hon hr hbal
  rcases hoo : onT t ma.path ⟨b2, b3, ma.rev⟩ with ⟨o1, o2⟩
  simp only [hoo] at hon hr
  clear hoo
  subst hr
  clear hb
  unfold TpM.cells at *
  go_enter Tryz.func55, Tryz.ntmps55
  go_wp2_with (first
   |(go_at_call 50; (with_reducible refine (hbal _ hO.below).mono ?_); rintro e w1 ⟨rfl, hb1⟩; replace hO := Own.new2 (hO.grow hb1) 93 #[.int .i64 b1, .int .i64 b2, .int .i64 b3]; have hcl1 := hO.b0.cell; have hcm1 := hO.b1.cell; have hcb1 := hO.b2.cell)
   |(go_at_call 56; (with_reducible refine (hon _ hO.below).mono ?_); rintro e w2 ⟨rfl, hb2⟩; replace hO := hO.grow hb2))
  go_ret2
  refine ⟨?_, hO.below⟩
  by_cases h0 : o2 = 0 <;> simp [h0]
theorem ahead_bound {t : Tp} (hl : ∀ n ∈ t.edges, 1 ≤ n ∧ n ≤ 1000000) {x : St} : ∀ (l : List St) (n a : Int), (∀ s ∈ l, thereT t s.edge = true) → aheadT t x l n = some a → n ≤ a ∧ a ≤ n + 1000000 * l.length
 | [], _, _, _, h => by simp [aheadT] at h
 | s :: l, n, a, hs, h => by
  rw [aheadT] at h
  have := edge_len hl (hs s (by simp))
  split at h
  ·
   simp at h
   subst h
   simp only [List.length_cons]
   omega
  ·
   have ih := ahead_bound hl l _ a (fun z hz => hs z (List.mem_cons_of_mem _ hz)) h
   simp only [List.length_cons]
   omega
theorem on_bound (t : Tp) (path : List St) (p : Ps) : 0 ≤ (onT t path p).1 ∧ (onT t path p).1 ≤ 100000000 := by
 unfold onT
 split
 ·
  simp
 ·
  rename_i h1
  split
  ·
   simp
  ·
   rename_i h2
   have h2 : lenE t path = 0 := Decidable.not_not.1 h2
   have h1 : rightT t p = true := by simpa using h1
   obtain ⟨r1, r2, r3, r4⟩ := right_parts h1
   have hl := check_edges r1
   have he := edge_len hl r2
   obtain ⟨k1, k2, k3, k4⟩ := len_ok h2
   split
   ·
    simp
   ·
    rename_i a ha
    have := ahead_bound hl path 0 a k3 ha
    simp only [alongT]
    split <;> omega
theorem back_bound (t : Tp) (m : Ma) : 0 ≤ (backR t m).1 ∧ (backR t m).1 ≤ 100000000 := by
 unfold backR
 cases balT t m.ref with
 | none => simp
 | some b => exact on_bound _ _ _
def frontV (o : Option Int) : Value := match o with
 | none => .tuple #[.int .i64 0, .bool false]
 | some n => .tuple #[.int .i64 n, .bool true]
set_option maxRecDepth 8000 in
set_option maxHeartbeats 4000000 in
theorem front_m {w : World} {t : Tp} {m : TpM} (h : TpIs w t m) (ma : Ma) (v : MaM) (hm : MaIs w ma v) (p : Ps) : Calls Tryz.prog 22 #[.agg m.cells, .agg (maC ma v), psV p] w fun e w' => e = .returned (frontV (frontM t ma p)) ∧ Below w.heap.size w w' := by
 have hO : Own w _ [_, _, _] := Own.start3 w 27 42 38 m.cells (maC ma v) #[.int .i64 p.edge, .int .i64 p.at_, .bool p.rev]
 have hcl := hO.b0.cell
 have hcm := hO.b1.cell
 have hcp := hO.b2.cell
 have hba := fun W (hW : Below w.heap.size w W) => back_m (h.below hW) ma v (hm.below hW)
 have hon := fun W (hW : Below w.heap.size w W) => on_m (h.below hW) v.A1 v.n1 v.c1 ma.path p (hm.path.below hW) hm.e1 hm.l1
 have hr : frontM t ma p = match backX t ma with
  | none => none
  | some b => if (onT t ma.path p).2 = 0 ∧ b ≤ (onT t ma.path p).1 then some ((onT t ma.path p).1 - b) else none := rfl
 rw [back_is] at hr
 have hb0 := back_bound t ma
 have ho0 := on_bound t ma.path p
 generalize frontM t ma p = fm at *
 generalize onT t ma.path p = on at *
 generalize backR t ma = br at *
 obtain ⟨pe, pa, pr⟩ := p
 obtain ⟨o1, o2⟩ := on
 obtain ⟨b1, b2⟩ := br
 simp only [TpM.cells] at hr hb0 ho0 hba hon hO hcl hcm hcp ⊢
 unfold maC at *
 unfold frontV
 cases b2 with
 | false =>
  obtain rfl : fm = none := hr
  go_enter Tryz.func22, Tryz.ntmps22
  go_wp2_with (first
   |(go_at_call 55; (with_reducible refine (hba _ hO.below).mono ?_); rintro e w1 ⟨rfl, hb1⟩; replace hO := hO.grow hb1; have hcl1 := hO.b0.cell; have hcm1 := hO.b1.cell; have hcb1 := hO.b2.cell)
   |(go_at_call 56; (with_reducible refine (hon _ hO.below).mono ?_); rintro e w2 ⟨rfl, hb2⟩; replace hO := hO.grow hb2))
  go_ret2
  exact ⟨rfl, hO.below⟩
 | true =>
  simp only [if_true] at hr
  by_cases h2 : o2 = 0
  ·
   subst h2
   by_cases h3 : b1 ≤ o1
   ·
    obtain rfl : fm = some (o1 - b1) := by rw [hr, if_pos ⟨rfl, h3⟩]
    have f3 : decide (o1 < b1) = false := by simp; omega
    clear hr
    go_enter Tryz.func22, Tryz.ntmps22
    go_wp2_with (first
     |(go_at_call 55; (with_reducible refine (hba _ hO.below).mono ?_); rintro e w1 ⟨rfl, hb1⟩; replace hO := hO.grow hb1; have hcl1 := hO.b0.cell; have hcm1 := hO.b1.cell; have hcb1 := hO.b2.cell)
     |(go_at_call 56; (with_reducible refine (hon _ hO.below).mono ?_); rintro e w2 ⟨rfl, hb2⟩; replace hO := hO.grow hb2))
    go_ret2
    exact ⟨rfl, hO.below⟩
   ·
    obtain rfl : fm = none := by rw [hr, if_neg (fun hh => h3 hh.2)]
    have f3 : decide (o1 < b1) = true := by simp; omega
    clear hr
    go_enter Tryz.func22, Tryz.ntmps22
    go_wp2_with (first
     |(go_at_call 55; (with_reducible refine (hba _ hO.below).mono ?_); rintro e w1 ⟨rfl, hb1⟩; replace hO := hO.grow hb1; have hcl1 := hO.b0.cell; have hcm1 := hO.b1.cell; have hcb1 := hO.b2.cell)
     |(go_at_call 56; (with_reducible refine (hon _ hO.below).mono ?_); rintro e w2 ⟨rfl, hb2⟩; replace hO := hO.grow hb2))
    go_ret2
    exact ⟨rfl, hO.below⟩
  ·
   obtain rfl : fm = none := by rw [hr, if_neg (fun hh => h2 hh.1)]
   have hne : (o2 != 0) = true := by simpa using h2
   clear hr h2
   go_enter Tryz.func22, Tryz.ntmps22
   go_wp2_with (first
    |(go_at_call 55; (with_reducible refine (hba _ hO.below).mono ?_); rintro e w1 ⟨rfl, hb1⟩; replace hO := hO.grow hb1; have hcl1 := hO.b0.cell; have hcm1 := hO.b1.cell; have hcb1 := hO.b2.cell)
    |(go_at_call 56; (with_reducible refine (hon _ hO.below).mono ?_); rintro e w2 ⟨rfl, hb2⟩; replace hO := hO.grow hb2))
   go_ret2
   exact ⟨rfl, hO.below⟩
theorem rising_drop {l : List Int} {k : Nat} {n x : Int} (h : l[k]? = some n) : risingP x (l.drop k) = (decide (x < n) && decide (n ≤ 15) && risingP n (l.drop (k + 1))) := by
 rw [drop_cons h, risingP]
set_option maxHeartbeats 2000000 in
theorem rising_k (A : Option Addr) (n c : Nat) (l : List Int) (w : World) (hp : RowsAt encI w A l) (hn : l.length = n) (hl : n ≤ 100) : Calls Tryz.prog 49 #[.slice A n c] w fun e w' => e = .returned (.bool (risingP (-1) l)) ∧ w' = w := by
 have HN := Lib.hid hn
 clear hn
 go_enter Tryz.func49, Tryz.ntmps49
 go_wp2
 go_loop [3, 8] (fun a i => ∃ (k : Nat) (x : Int), i = .int .i64 k ∧ k ≤ n ∧ a = .int .i64 x ∧ Hid (risingP (-1) l = risingP x (l.drop k))) (fun _ i => n - (intOf i).toNat)
 case atStart => exact ⟨0, -1, rfl, Nat.zero_le _, rfl, Lib.hid (by simp)⟩
 case round =>
  obtain ⟨k, x, rfl, hk, rfl, hap⟩ := hrel
  by_cases hlt : k < n
  ·
   obtain ⟨y, hy⟩ := get_some HN.out hlt
   have hstep := rising_drop (x := x) hy
   rw [← hap.out] at hstep
   have HS := Lib.hid hstep
   obtain ⟨g, off, rfl, hg, a0⟩ := hp.int (i := k) (by rw [HN.out]; exact hlt)
   obtain ⟨hk', rfl⟩ := List.getElem?_eq_some_iff.1 hy
   rw [getElem!_pos l k hk'] at a0
   generalize l[k] = y at *
   clear hstep hy hap
   by_cases g1 : y ≤ x
   ·
    have f1 : decide (y ≤ x) = true := by simpa using g1
    go_wp2_with fail
    go_ret
    exact ⟨by simp [HS.out]; omega, rfl⟩
   ·
    have f1 : decide (y ≤ x) = false := by simpa using g1
    by_cases g2 : 15 < y
    ·
     have f2 : decide (15 < y) = true := by simpa using g2
     go_wp2_with fail
     go_ret
     exact ⟨by simp [HS.out]; omega, rfl⟩
    ·
     have f2 : decide (15 < y) = false := by simpa using g2
     have HS2 := Lib.hid (show risingP (-1) l = risingP y (l.drop (k + 1)) by rw [HS.out]; simp; omega)
     clear HS
     go_wp2_with fail
     go_round
     case rel => exact ⟨k + 1, y, by go_num, by omega, rfl, HS2⟩
     case measure => simp [intOf]; omega
  ·
   obtain rfl : k = n := by omega
   have hap' : risingP (-1) l = true := by
    rw [hap.out, List.drop_of_length_le (by rw [HN.out]; exact Nat.le_refl _)]
    rfl
   have HAP := Lib.hid hap'
   clear hap'
   go_wp2_with fail
   go_ret
   exact ⟨by simp [HAP.out], rfl⟩
set_option maxHeartbeats 2000000 in
theorem blank_k (ma : Ma) (v : MaM) (w : World) (h : MaIs w ma v) : Calls Tryz.prog 52 #[.agg (maC ma v)] w fun e w' => e = .returned (.bool (blankP ma)) ∧ Below w.heap.size w w' := by
 have hO : Own w _ [_] := (Own.nil w).alloc 42 (maC ma v) _ rfl
 have hcl := hO.b0.cell
 have hr : blankP ma = (decide (ma.ref = 0) && !ma.rev && decide (v.n1 = 0) && decide (v.n2 = 0) && decide (ma.gap = 0)) := by
  unfold blankP
  rw [← h.e1, ← h.e2]
  congr 1
  congr 1
  ·
   congr 1
   cases ma.path <;> simp
  ·
   cases ma.sects <;> simp
 generalize blankP ma = bp at *
 unfold maC at *
 by_cases h1 : ma.ref = 0
 ·
  have f1 : (ma.ref == 0) = true := by simpa using h1
  cases h2 : ma.rev with
  | true =>
   obtain rfl : bp = false := by rw [hr, h2]; simp
   simp only [h2] at hO hcl ⊢
   clear hr h1 h2
   go_enter Tryz.func52, Tryz.ntmps52
   go_wp2_with fail
   go_ret
   exact ⟨rfl, hO.below⟩
  | false =>
   simp only [h2] at hO hcl ⊢
   by_cases h3 : v.n1 = 0
   ·
    have f3 : ((v.n1 : Int) == 0) = true := by simp [h3]
    by_cases h4 : v.n2 = 0
    ·
     have f4 : ((v.n2 : Int) == 0) = true := by simp [h4]
     by_cases h5 : ma.gap = 0
     ·
      have f5 : (ma.gap == 0) = true := by simpa using h5
      obtain rfl : bp = true := by rw [hr, h1, h2, h3, h4, h5]; rfl
      clear hr h1 h2 h3 h4 h5
      go_enter Tryz.func52, Tryz.ntmps52
      go_wp2_with fail
      go_ret
      exact ⟨rfl, hO.below⟩
     ·
      have f5 : (ma.gap == 0) = false := by simpa using h5
      obtain rfl : bp = false := by rw [hr, decide_eq_false h5]; simp
      clear hr h1 h2 h3 h4 h5
      go_enter Tryz.func52, Tryz.ntmps52
      go_wp2_with fail
      go_ret
      exact ⟨rfl, hO.below⟩
    ·
     have f4 : ((v.n2 : Int) == 0) = false := by simp; omega
     obtain rfl : bp = false := by rw [hr, decide_eq_false h4]; simp
     clear hr h1 h2 h3 h4
     go_enter Tryz.func52, Tryz.ntmps52
     go_wp2_with fail
     go_ret
     exact ⟨rfl, hO.below⟩
   ·
    have f3 : ((v.n1 : Int) == 0) = false := by simp; omega
    obtain rfl : bp = false := by rw [hr, decide_eq_false h3]; simp
    clear hr h1 h2 h3
    go_enter Tryz.func52, Tryz.ntmps52
    go_wp2_with fail
    go_ret
    exact ⟨rfl, hO.below⟩
 ·
  have f1 : (ma.ref == 0) = false := by simpa using h1
  obtain rfl : bp = false := by rw [hr, decide_eq_false h1]; simp
  clear hr h1
  go_enter Tryz.func52, Tryz.ntmps52
  go_wp2_with fail
  go_ret
  exact ⟨rfl, hO.below⟩
end Go.Proofs.YtkaggddmhjifjaaGreatDoor
set_option linter.unusedSimpArgs false
set_option linter.unusedVariables false
namespace Go.Proofs.YtkaggddmhjifjaaGreatDoor
open Go.RowKit Go.Shelf
theorem stime_k (n : Int) (w : World) : Calls Tryz.prog 96 #[.int .i64 n] w fun e w' => e = .returned (.bool (timeP n)) ∧ w' = w := by
 unfold timeP
 by_cases h1 : 0 ≤ n
 ·
  have f1 : decide (0 ≤ n) = true := by simpa using h1
  go_enter Tryz.func96, Tryz.ntmps96
  go_wp2
  go_ret
  exact ⟨by simp [h1], rfl⟩
 ·
  have f1 : decide (0 ≤ n) = false := by simpa using h1
  go_enter Tryz.func96, Tryz.ntmps96
  go_wp2
  go_ret
  exact ⟨by simp [h1], rfl⟩
theorem clock_k (n : Int) (w : World) : Calls Tryz.prog 95 #[.int .i64 n] w fun e w' => e = .returned (.bool (clockP n)) ∧ w' = w := by
 unfold clockP
 by_cases h1 : 0 ≤ n
 ·
  have f1 : decide (0 ≤ n) = true := by simpa using h1
  go_enter Tryz.func95, Tryz.ntmps95
  go_wp2
  go_ret
  exact ⟨by simp [h1], rfl⟩
 ·
  have f1 : decide (0 ≤ n) = false := by simpa using h1
  go_enter Tryz.func95, Tryz.ntmps95
  go_wp2
  go_ret
  exact ⟨by simp [h1], rfl⟩
def stampN (a b : Int) : Array Value := if (timeP a && timeP b) = true then #[.int .i64 (-1), .int .i64 a, .int .i64 b, .bool false] else #[.int .i64 0, .int .i64 0, .int .i64 0, .bool false]
def stampE (a b : Int) : Int := if (timeP a && timeP b) = true then 0 else 1
set_option maxHeartbeats 2000000 in
theorem snew_k (a b : Int) (w : World) : Calls Tryz.prog 72 #[.int .i64 a, .int .i64 b] w fun e w' => e = .returned (.tuple #[.agg (stampN a b), .int .i64 (stampE a b)]) ∧ Below w.heap.size w w' := by
 have hO : Own w _ [_] := (Own.nil w).alloc 36 #[.int .i64 0, .int .i64 0, .int .i64 0, .bool false] _ rfl
 have h1 := fun W => stime_k a W
 have h2 := fun W => stime_k b W
 unfold stampN stampE
 cases ha : timeP a with
 | false =>
  rw [ha] at h1
  simp only [Bool.false_and, Bool.false_eq_true, if_false]
  go_enter Tryz.func72, Tryz.ntmps72
  go_wp2_with (first
   |(go_at_call 96; (with_reducible refine (h1 _).mono ?_); rintro e w1 ⟨rfl, rfl⟩)
   |((with_reducible refine own_row0 (#[.int .i64 0, .int .i64 0, .int .i64 0, .bool false]) hO rfl _ _ rfl rfl rfl (by kernel_rfl) rfl ?_ ?_); (· first | rfl | (simp [Value.oneCell']; done)); intro wR hOR hszR hkR; replace hO := hOR; clear hOR)
   )
  exact bodyPost_ret (results_ct1 Tryz.results72 _ _ _ _ _ _ rfl rfl hO.b0 Tryz.underlying36 rfl (by kernel_rfl)) rfl ⟨rfl, hO.below⟩
 | true =>
  rw [ha] at h1
  cases hb : timeP b with
  | false =>
   rw [hb] at h2
   simp only [Bool.and_false, Bool.false_eq_true, if_false]
   go_enter Tryz.func72, Tryz.ntmps72
   go_wp2_with (first
    |(go_at_call 96; (with_reducible refine (h1 _).mono ?_); rintro e w1 ⟨rfl, rfl⟩)
    |(go_at_call 96; (with_reducible refine (h2 _).mono ?_); rintro e w1 ⟨rfl, rfl⟩)
    |((with_reducible refine own_row0 (#[.int .i64 0, .int .i64 0, .int .i64 0, .bool false]) hO rfl _ _ rfl rfl rfl (by kernel_rfl) rfl ?_ ?_); (· first | rfl | (simp [Value.oneCell']; done)); intro wR hOR hszR hkR; replace hO := hOR; clear hOR)
    )
   exact bodyPost_ret (results_ct1 Tryz.results72 _ _ _ _ _ _ rfl rfl hO.b0 Tryz.underlying36 rfl (by kernel_rfl)) rfl ⟨rfl, hO.below⟩
  | true =>
   rw [hb] at h2
   simp only [Bool.and_self, if_true]
   go_enter Tryz.func72, Tryz.ntmps72
   go_wp2_with (first
    |(go_at_call 96; (with_reducible refine (h1 _).mono ?_); rintro e w1 ⟨rfl, rfl⟩)
    |(go_at_call 96; (with_reducible refine (h2 _).mono ?_); rintro e w1 ⟨rfl, rfl⟩)
    |((with_reducible refine own_row0 (#[.int .i64 (-1), .int .i64 a, .int .i64 b, .bool false]) hO rfl _ _ rfl rfl rfl (by kernel_rfl) rfl ?_ ?_); (· first | rfl | (simp [Value.oneCell']; done)); intro wR hOR hszR hkR; replace hO := hOR; clear hOR)
    )
   exact bodyPost_ret (results_ct1 Tryz.results72 _ _ _ _ _ _ rfl rfl hO.b0 Tryz.underlying36 rfl (by kernel_rfl)) rfl ⟨rfl, hO.below⟩
def stampMay (l a b : Int) : Bool := timeP a && timeP b && (decide (l = -1) || timeP l)
set_option maxHeartbeats 2000000 in
theorem smay_k (l a b : Int) (f : Bool) (w : World) : Calls Tryz.prog 47 #[.agg #[.int .i64 l, .int .i64 a, .int .i64 b, .bool f]] w fun e w' => e = .returned (.bool (stampMay l a b)) ∧ Below w.heap.size w w' := by
 have hO : Own w _ [_] := (Own.nil w).alloc 36 #[.int .i64 l, .int .i64 a, .int .i64 b, .bool f] _ rfl
 have hcl := hO.b0.cell
 have h1 := fun W => stime_k a W
 have h2 := fun W => stime_k b W
 have h3 := fun W => stime_k l W
 unfold stampMay
 cases ha : timeP a with
 | false =>
  rw [ha] at h1
  go_enter Tryz.func47, Tryz.ntmps47
  go_wp2_with (first
   |(go_at_call 96; (with_reducible refine (h1 _).mono ?_); rintro e w1 ⟨rfl, rfl⟩))
  go_ret
  exact ⟨by simp, hO.below⟩
 | true =>
  rw [ha] at h1
  cases hb : timeP b with
  | false =>
   rw [hb] at h2
   go_enter Tryz.func47, Tryz.ntmps47
   go_wp2_with (first
    |(go_at_call 96; (with_reducible refine (h1 _).mono ?_); rintro e w1 ⟨rfl, rfl⟩)
    |(go_at_call 96; (with_reducible refine (h2 _).mono ?_); rintro e w1 ⟨rfl, rfl⟩))
   go_ret
   exact ⟨by simp, hO.below⟩
  | true =>
   rw [hb] at h2
   by_cases hl : l = -1
   ·
    subst hl
    go_enter Tryz.func47, Tryz.ntmps47
    go_wp2_with (first
     |(go_at_call 96; (with_reducible refine (h1 _).mono ?_); rintro e w1 ⟨rfl, rfl⟩)
     |(go_at_call 96; (with_reducible refine (h2 _).mono ?_); rintro e w1 ⟨rfl, rfl⟩))
    go_ret
    exact ⟨by simp, hO.below⟩
   ·
    have e1 : (l == -1) = false := by simpa using hl
    have HL := Lib.hid hl
    clear hl
    go_enter Tryz.func47, Tryz.ntmps47
    go_wp2_with (first
     |(go_at_call 96; (with_reducible refine (h1 _).mono ?_); rintro e w1 ⟨rfl, rfl⟩)
     |(go_at_call 96; (with_reducible refine (h2 _).mono ?_); rintro e w1 ⟨rfl, rfl⟩)
     |(go_at_call 96; (with_reducible refine (h3 _).mono ?_); rintro e w1 ⟨rfl, rfl⟩))
    go_ret
    exact ⟨by simp [HL.out], hO.below⟩
end Go.Proofs.YtkaggddmhjifjaaGreatDoor
