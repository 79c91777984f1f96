/- Texts in one: DocMay19 DocOver DocExtent. -/
import Derived.Test.YtkaggddmhjifjaaGreatDoorK38
import Derived.Test.YtkaggddmhjifjaaGreatDoorK39
import Derived.Test.YtkaggddmhjifjaaGreatDoorK33
import Derived.Test.YtkaggddmhjifjaaGreatDoorK37
import Derived.Test.YtkaggddmhjifjaaGreatDoorK11
import Derived.Test.YtkaggddmhjifjaaGreatDoorK34
import Derived.Test.YtkaggddmhjifjaaGreatDoorK12
set_option linter.unusedSimpArgs false
set_option linter.unusedVariables false
namespace Go.Proofs.YtkaggddmhjifjaaGreatDoor
open Go.RowKit Go.Shelf
set_option maxRecDepth 8000 in
set_option maxHeartbeats 8000000 in
theorem rmay19_c {w : World} {t : Tp} {m : TpM} (h : TpIs w t m) (x : Tr) (xm : TrM) (hx : TrIs w x xm) (hla : timeP x.last = false) (hla1 : x.last ≠ -1) : Calls Tryz.prog 23 #[.agg m.cells, .agg (trC x xm)] w fun e w' => e = .returned (.bool (mayX t x)) ∧ Below w.heap.size w w' := by
 have hO : Own w _ [_, _] := Own.start2 w 27 44 m.cells (trC x xm)
 have hcl := hO.b0.cell
 have hcx := hO.b1.cell
 have hru := fun W => rrules_k x.rl W
 have hsm := fun W => rsmay_k x.sl x.sa x.sb x.free W
 have hti := fun W => rtime_k x.last W
 have htk := fun W => rtick_k x.at_ W
 have hri := fun W (hW : Below w.heap.size w W) => rright_m (h.below hW) x.pos
 have hbal := fun W (hW : Below w.heap.size w W) => rbal_m (h.below hW) x.ref
 have hpm := fun W (hW : Below w.heap.size w W) => rmay17_m (h.below hW) x.ma xm.v (hx.ma.below hW)
 have hbl := fun W (hW : Below w.heap.size w W) => rnone_k x.ma xm.v W (hx.ma.below hW)
 have hM : mayX t x = false := Bool.eq_false_iff.2 fun hh => by
  obtain ⟨_, q1, q2, q3, q4, q5, q6, q7, q8, q9, q10, q11, q12⟩ := (mayX_iff t x).1 hh
  unfold timeP at hla
  simp at hla
  omega
 rw [hla] at hti
 rw [hM]
 have fB : (x.last != -1) = true := by simpa using hla1
 generalize rulesP x.rl = ru at *
 generalize stampMay x.sl x.sa x.sb = sm at *
 generalize rightT t x.pos = ri at *
 generalize mayP t x.ma = pm at *
 generalize blankP x.ma = bl at *
 generalize (balT t x.ref).isSome = ib at *
 generalize hy : (balT t x.ref).getD ⟨0, 0, 0⟩ = y at *
 generalize clockP x.at_ = ck at *
 obtain ⟨y1, y2, y3⟩ := y
 clear hM hy hla hla1
 have t0 := tr0 x xm
 have t1 := tr1 x xm
 have t2 := tr2 x xm
 have t3 := tr3 x xm
 have t4 := tr4 x xm
 have t5 := tr5 x xm
 have t6 := tr6 x xm
 have t7 := tr7 x xm
 have t8 := tr8 x xm
 have t9 := tr9 x xm
 have t10 := tr10 x xm
 have t11 := tr11 x xm
 have t12 := tr12 x xm
 have t28 := tr28 x xm
 have t29 := tr29 x xm
 have t30 := tr30 x xm
 have t31 := tr31 x xm
 have t32 := tr32 x xm
 have t33 := tr33 x xm
 have t34 := tr34 x xm
 have t35 := tr35 x xm
 have t36 := tr36 x xm
 have t37 := tr37 x xm
 have t38 := tr38 x xm
 have t39 := tr39 x xm
 have t40 := tr40 x xm
 have t41 := tr41 x xm
 have t42 := tr42 x xm
 have t43 := tr43 x xm
 have t44 := tr44 x xm
 have t45 := tr45 x xm
 have t46 := tr46 x xm
 have t47 := tr47 x xm
 unfold maC at hpm hbl
 unfold TpM.cells at *
 cases ru with
 | false =>
  go_enter Tryz.func23, Tryz.ntmps23
  go_wp2_with (
   (first
    |((with_reducible refine own_loadg1 hO ?_ _ rfl rfl _ Tryz.underlying44 rfl (trC_info x xm) ?_); (· first | rfl | (simp [Region.wanted, yielded]; done)))
    |(go_at_call 57; (with_reducible refine (hru _).mono ?_); rintro e w1 ⟨rfl, hb1⟩; replace hO := hO.grow hb1; have hcl1 := hO.b0.cell; have hcx1 := hO.b1.cell)
    |(go_at_call 58; (with_reducible refine (hsm _).mono ?_); rintro e w2 ⟨rfl, hb2⟩; replace hO := hO.grow hb2; have hcl2 := hO.b0.cell; have hcx2 := hO.b1.cell)
    |(go_at_call 59; (with_reducible refine (hti _).mono ?_); rintro e w3 ⟨rfl, hw3⟩; obtain rfl := hw3.symm)
    |(go_at_call 27; (with_reducible refine (htk _).mono ?_); rintro e w4 ⟨rfl, hw4⟩; obtain rfl := hw4.symm)
    |(go_at_call 60; (with_reducible refine (hri _ hO.below).mono ?_); rintro e w5 ⟨rfl, hb5⟩; replace hO := hO.grow hb5; have hcl5 := hO.b0.cell; have hcx5 := hO.b1.cell)
    |(go_at_call 61; (with_reducible refine (hbal _ hO.below).mono ?_); rintro e w6 ⟨rfl, hb6⟩; replace hO := Own.new2 (hO.grow hb6) 93 #[.int .i64 y1, .int .i64 y2, .int .i64 y3]; have hcl6 := hO.b0.cell; have hcx6 := hO.b1.cell)
    |(go_at_call 62; (with_reducible refine (hpm _ hO.below).mono ?_); rintro e w7 ⟨rfl, hb7⟩; replace hO := hO.grow hb7)
    |(go_at_call 63; (with_reducible refine (hbl _ hO.below).mono ?_); rintro e w8 ⟨rfl, hb8⟩; replace hO := hO.grow hb8; have hcx8 := hO.b1.cell))
   )
  go_ret
  exact ⟨rfl, hO.below⟩
 | true =>
 cases sm with
 | false =>
  go_enter Tryz.func23, Tryz.ntmps23
  go_wp2_with (
   (first
    |((with_reducible refine own_loadg1 hO ?_ _ rfl rfl _ Tryz.underlying44 rfl (trC_info x xm) ?_); (· first | rfl | (simp [Region.wanted, yielded]; done)))
    |(go_at_call 57; (with_reducible refine (hru _).mono ?_); rintro e w1 ⟨rfl, hb1⟩; replace hO := hO.grow hb1; have hcl1 := hO.b0.cell; have hcx1 := hO.b1.cell)
    |(go_at_call 58; (with_reducible refine (hsm _).mono ?_); rintro e w2 ⟨rfl, hb2⟩; replace hO := hO.grow hb2; have hcl2 := hO.b0.cell; have hcx2 := hO.b1.cell)
    |(go_at_call 59; (with_reducible refine (hti _).mono ?_); rintro e w3 ⟨rfl, hw3⟩; obtain rfl := hw3.symm)
    |(go_at_call 27; (with_reducible refine (htk _).mono ?_); rintro e w4 ⟨rfl, hw4⟩; obtain rfl := hw4.symm)
    |(go_at_call 60; (with_reducible refine (hri _ hO.below).mono ?_); rintro e w5 ⟨rfl, hb5⟩; replace hO := hO.grow hb5; have hcl5 := hO.b0.cell; have hcx5 := hO.b1.cell)
    |(go_at_call 61; (with_reducible refine (hbal _ hO.below).mono ?_); rintro e w6 ⟨rfl, hb6⟩; replace hO := Own.new2 (hO.grow hb6) 93 #[.int .i64 y1, .int .i64 y2, .int .i64 y3]; have hcl6 := hO.b0.cell; have hcx6 := hO.b1.cell)
    |(go_at_call 62; (with_reducible refine (hpm _ hO.below).mono ?_); rintro e w7 ⟨rfl, hb7⟩; replace hO := hO.grow hb7)
    |(go_at_call 63; (with_reducible refine (hbl _ hO.below).mono ?_); rintro e w8 ⟨rfl, hb8⟩; replace hO := hO.grow hb8; have hcx8 := hO.b1.cell))
   )
  go_ret
  exact ⟨rfl, hO.below⟩
 | true =>
  go_enter Tryz.func23, Tryz.ntmps23
  go_wp2_with (
   (first
    |((with_reducible refine own_loadg1 hO ?_ _ rfl rfl _ Tryz.underlying44 rfl (trC_info x xm) ?_); (· first | rfl | (simp [Region.wanted, yielded]; done)))
    |(go_at_call 57; (with_reducible refine (hru _).mono ?_); rintro e w1 ⟨rfl, hb1⟩; replace hO := hO.grow hb1; have hcl1 := hO.b0.cell; have hcx1 := hO.b1.cell)
    |(go_at_call 58; (with_reducible refine (hsm _).mono ?_); rintro e w2 ⟨rfl, hb2⟩; replace hO := hO.grow hb2; have hcl2 := hO.b0.cell; have hcx2 := hO.b1.cell)
    |(go_at_call 59; (with_reducible refine (hti _).mono ?_); rintro e w3 ⟨rfl, hw3⟩; obtain rfl := hw3.symm)
    |(go_at_call 27; (with_reducible refine (htk _).mono ?_); rintro e w4 ⟨rfl, hw4⟩; obtain rfl := hw4.symm)
    |(go_at_call 60; (with_reducible refine (hri _ hO.below).mono ?_); rintro e w5 ⟨rfl, hb5⟩; replace hO := hO.grow hb5; have hcl5 := hO.b0.cell; have hcx5 := hO.b1.cell)
    |(go_at_call 61; (with_reducible refine (hbal _ hO.below).mono ?_); rintro e w6 ⟨rfl, hb6⟩; replace hO := Own.new2 (hO.grow hb6) 93 #[.int .i64 y1, .int .i64 y2, .int .i64 y3]; have hcl6 := hO.b0.cell; have hcx6 := hO.b1.cell)
    |(go_at_call 62; (with_reducible refine (hpm _ hO.below).mono ?_); rintro e w7 ⟨rfl, hb7⟩; replace hO := hO.grow hb7)
    |(go_at_call 63; (with_reducible refine (hbl _ hO.below).mono ?_); rintro e w8 ⟨rfl, hb8⟩; replace hO := hO.grow hb8; have hcx8 := hO.b1.cell))
   )
  go_ret
  exact ⟨rfl, hO.below⟩
theorem rmay19_m {w : World} {t : Tp} {m : TpM} (h : TpIs w t m) (x : Tr) (xm : TrM) (hx : TrIs w x xm) : Calls Tryz.prog 23 #[.agg m.cells, .agg (trC x xm)] w fun e w' => e = .returned (.bool (mayX t x)) ∧ Below w.heap.size w w' := by
 cases hla : timeP x.last with
 | true => exact rmay19_a h x xm hx hla
 | false =>
  by_cases h1 : x.last = -1
  ·
   exact rmay19_b h x xm hx h1
  ·
   exact rmay19_c h x xm hx hla h1
open Go.RowKit Go.Shelf Go.Sort
def ltSp (s : Sp) : Bool := decide (s.lo < s.hi)
theorem norm_lt (l : List Sp) : normT (l.filter ltSp) = normT l := norm_filter l ltSp fun s h => by
 unfold someT at h
 unfold ltSp
 simp only [Bool.and_eq_true, decide_eq_true_eq] at h ⊢
 exact h.1.2
theorem left_behind {t : Tp} {m : Ma} {x : Int × Int} (h : mayP t m = true) (hx : leftP t m = some x) : x.2 = behindD t m := by
 obtain ⟨h1, ⟨b, hb, hhd⟩, _, _, _, _, _, _, hle, _⟩ := (mayP_doc t m).1 h
 unfold leftP at hx
 rw [hb] at hx
 simp only at hx
 rw [if_neg (by rintro (c | c); exact c hhd; exact c hle)] at hx
 cases hx
 unfold behindD
 rw [hb]
 simp only [Option.getD_some]
 rw [on_group h1 hb hhd hle]
 rfl
set_option maxRecDepth 8000 in
set_option maxHeartbeats 16000000 in
theorem rover_k {w : World} {t : Tp} {m : TpM} (h : TpIs w t m) (A : Option Addr) (n c : Nat) (path : List St) (fr to_ : Int) (hp : RowsAt encSt w A path) (hn : path.length = n) (hl : n ≤ 100) (hed : ∀ n ∈ t.edges, 1 ≤ n ∧ n ≤ 1000000) (hl0 : lenE t path = 0) (h0 : 0 ≤ fr) (h1 : fr ≤ to_) (h2 : to_ ≤ lenT t path) : Calls Tryz.prog 69 #[.agg m.cells, .slice A n c, .int .i64 fr, .int .i64 to_] w fun e w' => ∃ A' c', e = .returned (.tuple #[.slice A' (normT (piecesT t fr to_ path 0)).length c', .int .i64 0]) ∧ RowsAt encSp w' A' (normT (piecesT t fr to_ path 0)) ∧ Below w.heap.size w w' := by
 have hO : Own w _ [_] := (Own.nil w).alloc 27 m.cells _ rfl
 have hcl := hO.b0.cell
 have hle := fun W (hW : Below w.heap.size w W) => rlen_m (h.below hW) A n c path (hp.below hW) hn hl
 have hok := len_ok hl0
 have hlb : lenT t path ≤ 100000000 := by
  have := lens_nonneg hed path hok.2.2.1
  rw [len_is hed hl0]
  omega
 simp only [hl0] at hle
 rw [← norm_lt]
 have HT := Lib.hid hok.2.2.1
 have HE := Lib.hid hed
 have HN := Lib.hid hn
 have HE1 := Lib.hid h.e1
 have hi1 := h.l1
 have hn40 : n ≤ 40 := by omega
 clear hok hl0 hn hed
 generalize hlt : lenT t path = lt at *
 generalize hpp : (piecesT t fr to_ path 0).filter ltSp = pp at *
 have HP := Lib.hid hpp
 clear hlt hpp
 have e1 : decide (fr < 0) = false := by simpa using h0
 have e2 : decide (to_ < fr) = false := by simpa using h1
 have e3 : decide (lt < to_) = false := by simpa using h2
 unfold TpM.cells at *
 go_enter Tryz.func69, Tryz.ntmps69
 go_wp2_with (first
  |(go_at_call 114; (with_reducible refine (hle _ hO.below).mono ?_); rintro e w1 ⟨rfl, hb1⟩; replace hO := hO.grow hb1))
 clear hle hcl
 go_loopw [12] (fun x wr => ∃ k : Nat, x = .int .i64 k ∧ k ≤ m.n1 ∧ Own w wr [(w.heap.size, 27, #[.slice m.A1 m.n1 m.c1, .slice m.A2 m.n2 m.c2, .slice m.A3 m.n3 m.c3, .slice m.A4 m.n4 m.c4])]) (fun x _ => m.n1 - (intOf x).toNat)
 case atStart => exact ⟨0, rfl, Nat.zero_le _, hO⟩
 case round =>
  clear hO
  obtain ⟨q, rfl, hq, hO⟩ := hrel
  have hcl := hO.b0.cell
  by_cases hlt : q < m.n1
  ·
   have hdc : decide ((q : Int) < (m.n1 : Int)) = true := by simpa using hlt
   have hil : q < t.edges.length := by rw [HE1.out]; exact hlt
   obtain ⟨g, off, hA1, hg, a0⟩ := h.lies.edges.int hil
   have k0 := (hO.below.cell (p := ⟨g, off + q, none⟩) hg).trans a0
   have hev := HE.out (t.edges[q]!) (by rw [getElem!_pos t.edges q hil]; exact List.getElem_mem hil)
   generalize t.edges[q]! = ev at *
   have f1 : decide (ev < 1) = false := by simp; omega
   have f2 : decide (1000000 < ev) = false := by simp; omega
   clear a0 hil
   simp only [hA1] at hO hcl ⊢
   go_wp2_with fail
   go_roundw
   case rel => exact ⟨q + 1, by go_num, by omega, hO⟩
   case measure => simp [intOf]; omega
  ·
   obtain rfl : q = m.n1 := by omega
   have hdc : decide ((m.n1 : Int) < (m.n1 : Int)) = false := by simp
   go_wp2_with fail
   clear hdc hcl e1 e2 e3 hlt
   go_loopw [13, 14, 15] (fun s a x wr => ∃ (k : Nat) (at_ : Int) (A1 : Option Addr) (c1 z : Nat) (zs : List Sp), x = .int .i64 k ∧ k ≤ n ∧ a = .int .i64 at_ ∧ 0 ≤ at_ ∧ at_ ≤ 1000000 * k ∧ s = .slice A1 z c1 ∧ z ≤ k ∧ Hid (zs ++ (piecesT t fr to_ (path.drop k) at_).filter ltSp = pp) ∧ Hid (zs.length = z) ∧ OwnRows encSp 75 wr (w.heap.size + 1) A1 c1 zs ∧ Own w wr [(w.heap.size, 27, #[.slice m.A1 m.n1 m.c1, .slice m.A2 m.n2 m.c2, .slice m.A3 m.n3 m.c3, .slice m.A4 m.n4 m.c4])]) (fun _ _ x _ => n - (intOf x).toNat)
   case atStart => exact ⟨0, 0, none, 0, 0, [], rfl, Nat.zero_le _, rfl, Int.le_refl _, Int.le_refl _, rfl, Nat.le_refl _, Lib.hid (by simpa using HP.out), Lib.hid rfl, OwnRows.nil _ _, hO⟩
   case round =>
    clear hO
    obtain ⟨k, at_, A1, c1, z, zs, rfl, hk, rfl, ha0, ha1, rfl, hzk, hJ, hz, ho, hO⟩ := hrel
    by_cases hlt : k < n
    ·
     have hdc : decide ((k : Int) < (n : Int)) = true := by simpa using hlt
     obtain ⟨s, hs⟩ := get_some HN.out hlt
     obtain ⟨g, off, rfl, hg, a0, a1⟩ := hp.st hs
     have ka0 := fun W (hW : Below w.heap.size w W) => (hW.cell (p := ⟨g, off + k * 2, none⟩) hg).trans a0
     have ka1 := fun W (hW : Below w.heap.size w W) => (hW.cell (p := ⟨g, off + k * 2 + 1, none⟩) hg).trans a1
     have hr := HT.out s (List.mem_of_getElem? hs)
     obtain ⟨i, hi, hil, hie⟩ := there_int hr
     obtain ⟨ge, offe, hge, hgb, c0⟩ := h.lies.edges.int hil
     have ke0 := fun W (hW : Below w.heap.size w W) => (hW.cell (p := ⟨ge, offe + i, none⟩) hgb).trans c0
     have hin : i < m.n1 := by have := HE1.out; omega
     have hev := HE.out (t.edges[i]!) (by rw [getElem!_pos t.edges i hil]; exact List.getElem_mem hil)
     have hd1 : path.drop k = s :: path.drop (k + 1) := drop_cons hs
     have hJ' := hJ.out
     rw [hd1, piecesT, pieceT, hie] at hJ'
     try simp only at hJ'
     generalize t.edges[i]! = ev at *
     clear hs hr hie hil c0 a0 a1 hd1 hJ
     obtain ⟨x1, x2⟩ := s
     simp only at hi
     subst hi
     simp only at ka0 ka1 hJ'
     have hcl := hO.b0.cell
     simp only [hge] at hO hcl ⊢
     go_wp2_with fail
     clear hcl hdc
     apply wp_region_lex
     case hFl => intro u; simp only [List.map, fill, Act.put, List.setIfInBounds_toArray, List.set_cons_zero, List.set_cons_succ, Nat.reduceAdd, Nat.zero_add]; rfl
     case hm => kernel_rfl
     case hB => kernel_rfl
     case hap => kernel_rfl
     repeat (first | (apply Lex.is; · (intro u w' hk hd; simp [Waited, Region.binds, Is] at hd; refine looked_want ?_ ?_; (· (first | rfl | (simp [Region.wanted, yielded, hd]; done))); intro K hK; have hO2 := hO.grow hk; have hca := hO2.b0.cell; have m0 := ka0 _ hO2.below; have m1 := ke0 _ hO2.below; go_wp2_with (fail); (try simp only [hd] at hK); refine hK _ _ ?_ rfl; first | exact Below.refl _ _ | exact hb3)) | (refine Lex.is (c := undef) ?_ ?_; · (intro u w' hk hd; simp [Waited, Region.binds, Is] at hd; refine looked_skip ?_ rfl; first | (simp [Region.wanted, yielded, hd]; done) | (simp [Region.wanted, yielded, hd, undef]; done))))
     apply Lex.nil
     intro u w' hk hd
     simp only [List.nil_append, List.cons_append] at hd
     have hlast := hd 9 _ rfl
     simp only [Is] at hlast
     clear hd
     simp only [hlast]
     clear hlast
     replace ho := ho.below hk
     replace hO := hO.grow hk
     have m0 := ka0 _ hO.below
     have m1 := ka1 _ hO.below
     clear hk
     by_cases c1' : fr - at_ < 0
     ·
      have d1 : decide (fr - at_ < 0) = true := by simpa using c1'
      by_cases c2' : ev < to_ - at_
      ·
       have d2 : decide (ev < to_ - at_) = true := by simpa using c2'
       have hA : max (fr - at_) 0 = 0 := by omega
       have hB : min (to_ - at_) ev = ev := by omega
       rw [hA, hB] at hJ'
       by_cases hab : 0 < ev
       ·
        have fab : decide (0 < ev) = true := decide_eq_true hab
        cases x2 with
        | true =>
         simp only [if_true] at hJ'
         rw [List.filter_cons_of_pos (by unfold ltSp; simp only [decide_eq_true_eq]; omega)] at hJ'
         try simp only [Int.sub_zero, Int.sub_self] at hJ'
         have HJ := Lib.hid hJ'
         clear hJ' hA hB hab
         go_wp2_with (at_builtin; refine wpList_app_rows rowSp rfl _ _ rfl (w.heap.size + 1) A1 c1 zs z rfl hz.out (ho.below ((Below.refl _ _).alloc (Nat.le_refl _) _)) (some ⟨w'.heap.size, 0, none⟩) 1 [⟨i, 0, ev⟩] 1 rfl rfl (rowSp_one (Blk.new _ _ _)) (by omega) (by decide) (by have := hO.b0.lt; simp; omega) ?_; intro A2 c2 w5 ho5 hg5 _)
         go_roundw
         case rel =>
          refine ⟨k + 1, at_ + ev, A2, c2, z + 1, zs ++ [⟨i, 0, ev⟩], by go_num, by omega, rfl, by omega, by omega, by first | rfl | go_num, by omega, Lib.hid ?_, Lib.hid (by rw [List.length_append, hz.out]; rfl), ho5, ?_⟩
          ·
           rw [List.append_assoc]
           exact HJ.out
          ·
           refine Own.grown (hO.grow ((Below.refl _ _).alloc (Nat.le_refl _) _)) hg5 fun g hg => ?_
           have := ho.row_ge g hg
           refine ⟨by omega, fun x hx => ?_⟩
           simp only [List.mem_singleton] at hx
           subst hx
           simp only
           omega
         case measure => simp [intOf]; omega
        | false =>
         simp only [Bool.false_eq_true, if_false] at hJ'
         rw [List.filter_cons_of_pos (by unfold ltSp; simp only [decide_eq_true_eq]; omega)] at hJ'
         have HJ := Lib.hid hJ'
         clear hJ' hA hB hab
         go_wp2_with (at_builtin; refine wpList_app_rows rowSp rfl _ _ rfl (w.heap.size + 1) A1 c1 zs z rfl hz.out (ho.below ((Below.refl _ _).alloc (Nat.le_refl _) _)) (some ⟨w'.heap.size, 0, none⟩) 1 [⟨i, 0, ev⟩] 1 rfl rfl (rowSp_one (Blk.new _ _ _)) (by omega) (by decide) (by have := hO.b0.lt; simp; omega) ?_; intro A2 c2 w5 ho5 hg5 _)
         go_roundw
         case rel =>
          refine ⟨k + 1, at_ + ev, A2, c2, z + 1, zs ++ [⟨i, 0, ev⟩], by go_num, by omega, rfl, by omega, by omega, by first | rfl | go_num, by omega, Lib.hid ?_, Lib.hid (by rw [List.length_append, hz.out]; rfl), ho5, ?_⟩
          ·
           rw [List.append_assoc]
           exact HJ.out
          ·
           refine Own.grown (hO.grow ((Below.refl _ _).alloc (Nat.le_refl _) _)) hg5 fun g hg => ?_
           have := ho.row_ge g hg
           refine ⟨by omega, fun x hx => ?_⟩
           simp only [List.mem_singleton] at hx
           subst hx
           simp only
           omega
         case measure => simp [intOf]; omega
       ·
        have fab : decide (0 < ev) = false := decide_eq_false hab
        rw [List.filter_cons_of_neg (by unfold ltSp; cases x2 <;> simp <;> omega)] at hJ'
        have HJ := Lib.hid hJ'
        clear hJ' hA hB hab
        go_wp2_with fail
        go_roundw
        case rel => exact ⟨k + 1, at_ + ev, A1, c1, z, zs, by go_num, by omega, rfl, by omega, by omega, rfl, by omega, HJ, hz, ho, hO⟩
        case measure => simp [intOf]; omega
      ·
       have d2 : decide (ev < to_ - at_) = false := by simpa using c2'
       have hA : max (fr - at_) 0 = 0 := by omega
       have hB : min (to_ - at_) ev = (to_ - at_) := by omega
       rw [hA, hB] at hJ'
       by_cases hab : 0 < (to_ - at_)
       ·
        have fab : decide (0 < (to_ - at_)) = true := decide_eq_true hab
        have fb2 : decide (at_ < to_) = true := decide_eq_true (by omega)
        cases x2 with
        | true =>
         simp only [if_true] at hJ'
         rw [List.filter_cons_of_pos (by unfold ltSp; simp only [decide_eq_true_eq]; omega)] at hJ'
         try simp only [Int.sub_zero, Int.sub_self] at hJ'
         have HJ := Lib.hid hJ'
         clear hJ' hA hB hab
         go_wp2_with (at_builtin; refine wpList_app_rows rowSp rfl _ _ rfl (w.heap.size + 1) A1 c1 zs z rfl hz.out (ho.below ((Below.refl _ _).alloc (Nat.le_refl _) _)) (some ⟨w'.heap.size, 0, none⟩) 1 [⟨i, ev - (to_ - at_), ev⟩] 1 rfl rfl (rowSp_one (Blk.new _ _ _)) (by omega) (by decide) (by have := hO.b0.lt; simp; omega) ?_; intro A2 c2 w5 ho5 hg5 _)
         go_roundw
         case rel =>
          refine ⟨k + 1, at_ + ev, A2, c2, z + 1, zs ++ [⟨i, ev - (to_ - at_), ev⟩], by go_num, by omega, rfl, by omega, by omega, by first | rfl | go_num, by omega, Lib.hid ?_, Lib.hid (by rw [List.length_append, hz.out]; rfl), ho5, ?_⟩
          ·
           rw [List.append_assoc]
           exact HJ.out
          ·
           refine Own.grown (hO.grow ((Below.refl _ _).alloc (Nat.le_refl _) _)) hg5 fun g hg => ?_
           have := ho.row_ge g hg
           refine ⟨by omega, fun x hx => ?_⟩
           simp only [List.mem_singleton] at hx
           subst hx
           simp only
           omega
         case measure => simp [intOf]; omega
        | false =>
         simp only [Bool.false_eq_true, if_false] at hJ'
         rw [List.filter_cons_of_pos (by unfold ltSp; simp only [decide_eq_true_eq]; omega)] at hJ'
         have HJ := Lib.hid hJ'
         clear hJ' hA hB hab
         go_wp2_with (at_builtin; refine wpList_app_rows rowSp rfl _ _ rfl (w.heap.size + 1) A1 c1 zs z rfl hz.out (ho.below ((Below.refl _ _).alloc (Nat.le_refl _) _)) (some ⟨w'.heap.size, 0, none⟩) 1 [⟨i, 0, (to_ - at_)⟩] 1 rfl rfl (rowSp_one (Blk.new _ _ _)) (by omega) (by decide) (by have := hO.b0.lt; simp; omega) ?_; intro A2 c2 w5 ho5 hg5 _)
         go_roundw
         case rel =>
          refine ⟨k + 1, at_ + ev, A2, c2, z + 1, zs ++ [⟨i, 0, (to_ - at_)⟩], by go_num, by omega, rfl, by omega, by omega, by first | rfl | go_num, by omega, Lib.hid ?_, Lib.hid (by rw [List.length_append, hz.out]; rfl), ho5, ?_⟩
          ·
           rw [List.append_assoc]
           exact HJ.out
          ·
           refine Own.grown (hO.grow ((Below.refl _ _).alloc (Nat.le_refl _) _)) hg5 fun g hg => ?_
           have := ho.row_ge g hg
           refine ⟨by omega, fun x hx => ?_⟩
           simp only [List.mem_singleton] at hx
           subst hx
           simp only
           omega
         case measure => simp [intOf]; omega
       ·
        have fab : decide (0 < (to_ - at_)) = false := decide_eq_false hab
        have fb2 : decide (at_ < to_) = false := decide_eq_false (by omega)
        rw [List.filter_cons_of_neg (by unfold ltSp; cases x2 <;> simp <;> omega)] at hJ'
        have HJ := Lib.hid hJ'
        clear hJ' hA hB hab
        go_wp2_with fail
        go_roundw
        case rel => exact ⟨k + 1, at_ + ev, A1, c1, z, zs, by go_num, by omega, rfl, by omega, by omega, rfl, by omega, HJ, hz, ho, hO⟩
        case measure => simp [intOf]; omega
     ·
      have d1 : decide (fr - at_ < 0) = false := by simpa using c1'
      by_cases c2' : ev < to_ - at_
      ·
       have d2 : decide (ev < to_ - at_) = true := by simpa using c2'
       have hA : max (fr - at_) 0 = (fr - at_) := by omega
       have hB : min (to_ - at_) ev = ev := by omega
       rw [hA, hB] at hJ'
       by_cases hab : (fr - at_) < ev
       ·
        have fab : decide ((fr - at_) < ev) = true := decide_eq_true hab
        cases x2 with
        | true =>
         simp only [if_true] at hJ'
         rw [List.filter_cons_of_pos (by unfold ltSp; simp only [decide_eq_true_eq]; omega)] at hJ'
         try simp only [Int.sub_zero, Int.sub_self] at hJ'
         have HJ := Lib.hid hJ'
         clear hJ' hA hB hab
         go_wp2_with (at_builtin; refine wpList_app_rows rowSp rfl _ _ rfl (w.heap.size + 1) A1 c1 zs z rfl hz.out (ho.below ((Below.refl _ _).alloc (Nat.le_refl _) _)) (some ⟨w'.heap.size, 0, none⟩) 1 [⟨i, 0, ev - (fr - at_)⟩] 1 rfl rfl (rowSp_one (Blk.new _ _ _)) (by omega) (by decide) (by have := hO.b0.lt; simp; omega) ?_; intro A2 c2 w5 ho5 hg5 _)
         go_roundw
         case rel =>
          refine ⟨k + 1, at_ + ev, A2, c2, z + 1, zs ++ [⟨i, 0, ev - (fr - at_)⟩], by go_num, by omega, rfl, by omega, by omega, by first | rfl | go_num, by omega, Lib.hid ?_, Lib.hid (by rw [List.length_append, hz.out]; rfl), ho5, ?_⟩
          ·
           rw [List.append_assoc]
           exact HJ.out
          ·
           refine Own.grown (hO.grow ((Below.refl _ _).alloc (Nat.le_refl _) _)) hg5 fun g hg => ?_
           have := ho.row_ge g hg
           refine ⟨by omega, fun x hx => ?_⟩
           simp only [List.mem_singleton] at hx
           subst hx
           simp only
           omega
         case measure => simp [intOf]; omega
        | false =>
         simp only [Bool.false_eq_true, if_false] at hJ'
         rw [List.filter_cons_of_pos (by unfold ltSp; simp only [decide_eq_true_eq]; omega)] at hJ'
         have HJ := Lib.hid hJ'
         clear hJ' hA hB hab
         go_wp2_with (at_builtin; refine wpList_app_rows rowSp rfl _ _ rfl (w.heap.size + 1) A1 c1 zs z rfl hz.out (ho.below ((Below.refl _ _).alloc (Nat.le_refl _) _)) (some ⟨w'.heap.size, 0, none⟩) 1 [⟨i, (fr - at_), ev⟩] 1 rfl rfl (rowSp_one (Blk.new _ _ _)) (by omega) (by decide) (by have := hO.b0.lt; simp; omega) ?_; intro A2 c2 w5 ho5 hg5 _)
         go_roundw
         case rel =>
          refine ⟨k + 1, at_ + ev, A2, c2, z + 1, zs ++ [⟨i, (fr - at_), ev⟩], by go_num, by omega, rfl, by omega, by omega, by first | rfl | go_num, by omega, Lib.hid ?_, Lib.hid (by rw [List.length_append, hz.out]; rfl), ho5, ?_⟩
          ·
           rw [List.append_assoc]
           exact HJ.out
          ·
           refine Own.grown (hO.grow ((Below.refl _ _).alloc (Nat.le_refl _) _)) hg5 fun g hg => ?_
           have := ho.row_ge g hg
           refine ⟨by omega, fun x hx => ?_⟩
           simp only [List.mem_singleton] at hx
           subst hx
           simp only
           omega
         case measure => simp [intOf]; omega
       ·
        have fab : decide ((fr - at_) < ev) = false := decide_eq_false hab
        rw [List.filter_cons_of_neg (by unfold ltSp; cases x2 <;> simp <;> omega)] at hJ'
        have HJ := Lib.hid hJ'
        clear hJ' hA hB hab
        go_wp2_with fail
        go_roundw
        case rel => exact ⟨k + 1, at_ + ev, A1, c1, z, zs, by go_num, by omega, rfl, by omega, by omega, rfl, by omega, HJ, hz, ho, hO⟩
        case measure => simp [intOf]; omega
      ·
       have d2 : decide (ev < to_ - at_) = false := by simpa using c2'
       have hA : max (fr - at_) 0 = (fr - at_) := by omega
       have hB : min (to_ - at_) ev = (to_ - at_) := by omega
       rw [hA, hB] at hJ'
       by_cases hab : (fr - at_) < (to_ - at_)
       ·
        have fab : decide ((fr - at_) < (to_ - at_)) = true := decide_eq_true hab
        have fb2 : decide (fr < to_) = true := decide_eq_true (by omega)
        cases x2 with
        | true =>
         simp only [if_true] at hJ'
         rw [List.filter_cons_of_pos (by unfold ltSp; simp only [decide_eq_true_eq]; omega)] at hJ'
         try simp only [Int.sub_zero, Int.sub_self] at hJ'
         have HJ := Lib.hid hJ'
         clear hJ' hA hB hab
         go_wp2_with (at_builtin; refine wpList_app_rows rowSp rfl _ _ rfl (w.heap.size + 1) A1 c1 zs z rfl hz.out (ho.below ((Below.refl _ _).alloc (Nat.le_refl _) _)) (some ⟨w'.heap.size, 0, none⟩) 1 [⟨i, ev - (to_ - at_), ev - (fr - at_)⟩] 1 rfl rfl (rowSp_one (Blk.new _ _ _)) (by omega) (by decide) (by have := hO.b0.lt; simp; omega) ?_; intro A2 c2 w5 ho5 hg5 _)
         go_roundw
         case rel =>
          refine ⟨k + 1, at_ + ev, A2, c2, z + 1, zs ++ [⟨i, ev - (to_ - at_), ev - (fr - at_)⟩], by go_num, by omega, rfl, by omega, by omega, by first | rfl | go_num, by omega, Lib.hid ?_, Lib.hid (by rw [List.length_append, hz.out]; rfl), ho5, ?_⟩
          ·
           rw [List.append_assoc]
           exact HJ.out
          ·
           refine Own.grown (hO.grow ((Below.refl _ _).alloc (Nat.le_refl _) _)) hg5 fun g hg => ?_
           have := ho.row_ge g hg
           refine ⟨by omega, fun x hx => ?_⟩
           simp only [List.mem_singleton] at hx
           subst hx
           simp only
           omega
         case measure => simp [intOf]; omega
        | false =>
         simp only [Bool.false_eq_true, if_false] at hJ'
         rw [List.filter_cons_of_pos (by unfold ltSp; simp only [decide_eq_true_eq]; omega)] at hJ'
         have HJ := Lib.hid hJ'
         clear hJ' hA hB hab
         go_wp2_with (at_builtin; refine wpList_app_rows rowSp rfl _ _ rfl (w.heap.size + 1) A1 c1 zs z rfl hz.out (ho.below ((Below.refl _ _).alloc (Nat.le_refl _) _)) (some ⟨w'.heap.size, 0, none⟩) 1 [⟨i, (fr - at_), (to_ - at_)⟩] 1 rfl rfl (rowSp_one (Blk.new _ _ _)) (by omega) (by decide) (by have := hO.b0.lt; simp; omega) ?_; intro A2 c2 w5 ho5 hg5 _)
         go_roundw
         case rel =>
          refine ⟨k + 1, at_ + ev, A2, c2, z + 1, zs ++ [⟨i, (fr - at_), (to_ - at_)⟩], by go_num, by omega, rfl, by omega, by omega, by first | rfl | go_num, by omega, Lib.hid ?_, Lib.hid (by rw [List.length_append, hz.out]; rfl), ho5, ?_⟩
          ·
           rw [List.append_assoc]
           exact HJ.out
          ·
           refine Own.grown (hO.grow ((Below.refl _ _).alloc (Nat.le_refl _) _)) hg5 fun g hg => ?_
           have := ho.row_ge g hg
           refine ⟨by omega, fun x hx => ?_⟩
           simp only [List.mem_singleton] at hx
           subst hx
           simp only
           omega
         case measure => simp [intOf]; omega
       ·
        have fab : decide ((fr - at_) < (to_ - at_)) = false := decide_eq_false hab
        have fb2 : decide (fr < to_) = false := decide_eq_false (by omega)
        rw [List.filter_cons_of_neg (by unfold ltSp; cases x2 <;> simp <;> omega)] at hJ'
        have HJ := Lib.hid hJ'
        clear hJ' hA hB hab
        go_wp2_with fail
        go_roundw
        case rel => exact ⟨k + 1, at_ + ev, A1, c1, z, zs, by go_num, by omega, rfl, by omega, by omega, rfl, by omega, HJ, hz, ho, hO⟩
        case measure => simp [intOf]; omega
    ·
     obtain rfl : k = n := by omega
     have hdc : decide ((k : Int) < (k : Int)) = false := by simp
     have hzz : zs = pp := by
      have := hJ.out
      rw [List.drop_of_length_le (by rw [HN.out]; exact Nat.le_refl _), piecesT, List.filter_nil, List.append_nil] at this
      exact this
     subst hzz
     have hno := fun W (hW : Below wr.heap.size wr W) => rnorm_k A1 z c1 zs W (ho.below hW).rows hz.out (by omega)
     clear hJ
     go_wp2_with (first
      |(go_at_call 119; (with_reducible refine (hno _ (Below.refl _ _)).mono ?_); rintro e w5 ⟨A9, c9, rfl, ho9, hb9⟩))
     go_ret2
     exact ⟨A9, c9, rfl, ho9.rows, below_then hO.below hb9⟩
open Go.RowKit Go.Shelf
set_option maxRecDepth 8000 in
set_option maxHeartbeats 8000000 in
theorem rextent_k {w : World} {t : Tp} {m : TpM} (h : TpIs w t m) (ma : Ma) (v : MaM) (hm : MaIs w ma v) (hmay : mayP t ma = true) (fr to_ : Int) (h0 : 0 ≤ fr) (h1 : fr ≤ to_) (h2 : to_ ≤ lastP ma + ma.gap) : Calls Tryz.prog 29 #[.agg m.cells, .agg (maC ma v), .int .i64 fr, .int .i64 to_] w fun e w' => ∃ A' c', e = .returned (.tuple #[.slice A' (extentT t ma fr to_).length c', .int .i64 0]) ∧ RowsAt encSp w' A' (extentT t ma fr to_) ∧ Below w.heap.size w w' := by
 have hO : Own w _ [_, _] := Own.start2 w 27 42 m.cells (maC ma v)
 have hcl := hO.b0.cell
 have hcx := hO.b1.cell
 have hmy := fun W (hW : Below w.heap.size w W) => rmay17_m (h.below hW) ma v (hm.below hW)
 have hla := fun W (hW : Below w.heap.size w W) => rlast_m ma v W (hm.below hW)
 have hbe := fun W (hW : Below w.heap.size w W) => rbehind_m (h.below hW) ma v (hm.below hW)
 obtain ⟨x, hx, hc, hl0, hx0, hx1, hx2, hex⟩ := extent_is hmay h0 h1 h2
 have hxb := left_behind hmay hx
 rw [hxb] at hx0 hx1 hex
 have hov := fun W (hW : Below w.heap.size w W) => rover_k (h.below hW) v.A1 v.n1 v.c1 ma.path (behindD t ma + fr) (behindD t ma + to_) (hm.path.below hW) hm.e1 hm.l1 (check_edges hc) hl0 (by omega) (by omega) (by omega)
 rw [← hex] at hov
 obtain ⟨_, _, _, hn1, hn8, hg0, hg1, _, _, hsd, hend⟩ := (mayP_doc t ma).1 hmay
 have hlp := lastP_bound hsd
 have hep : endP ma = lastP ma + ma.gap := by
  unfold endP
  rw [if_neg (by omega)]
  simp only [wrap64]
  omega
 rw [hmay] at hmy
 rw [hep] at hla
 clear hx hc hl0 hxb hex hsd hend hep hmay
 generalize behindD t ma = bd at *
 generalize extentT t ma fr to_ = ex at *
 generalize lastP ma = lp at *
 generalize lenT t ma.path = lt at *
 unfold maC at *
 unfold TpM.cells at *
 have f1 : decide (fr < 0) = false := by simpa using h0
 have f2 : decide (to_ < fr) = false := by simpa using h1
 have f3 : decide (lp + ma.gap < to_) = false := by simpa using h2
 go_enter Tryz.func29, Tryz.ntmps29
 go_wp2_with (first
  |(go_at_call 62; (with_reducible refine (hmy _ hO.below).mono ?_); rintro e w1 ⟨rfl, hb1⟩; replace hO := hO.grow hb1; have hcl1 := hO.b0.cell; have hcx1 := hO.b1.cell)
  |(go_at_call 68; (with_reducible refine (hla _ hO.below).mono ?_); rintro e w2 ⟨rfl, hb2⟩; replace hO := hO.grow hb2; have hcl2 := hO.b0.cell; have hcx2 := hO.b1.cell)
  |(go_at_call 65; (with_reducible refine (hbe _ hO.below).mono ?_); rintro e w3 ⟨rfl, hb3⟩; replace hO := hO.grow hb3; have hcl3 := hO.b0.cell; have hcx3 := hO.b1.cell)
  |(go_at_call 69; (with_reducible refine (hov _ hO.below).mono ?_); rintro e w4 ⟨A9, c9, rfl, hr9, hb4⟩; replace hO := hO.grow hb4))
 go_ret2
 exact ⟨A9, c9, rfl, hr9, hO.below⟩
end Go.Proofs.YtkaggddmhjifjaaGreatDoor
