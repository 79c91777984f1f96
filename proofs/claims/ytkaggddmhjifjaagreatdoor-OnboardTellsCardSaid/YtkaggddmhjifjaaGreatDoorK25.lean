/- Texts in one: Build Holds. -/
import Derived.Test.YtkaggddmhjifjaaGreatDoorK24
import Derived.Test.YtkaggddmhjifjaaGreatDoorK20
set_option linter.unusedSimpArgs false
set_option linter.unusedVariables false
namespace Go.Proofs.YtkaggddmhjifjaaGreatDoor
open Go.RowKit Go.Shelf
theorem own_one {w : World} {B g : Nat} (h : Blk w g 95 #[.int .i64 0, .bool false]) (hB : B ≤ g) : OwnRows encSt 95 w B (some ⟨g, 0, none⟩) 1 [⟨0, false⟩] := ⟨rfl, .inr ⟨g, 1, _, rfl, hB, h, Nat.le_refl _, by decide, rfl, rfl⟩⟩
theorem set_noop {w : World} {g i : Nat} {t : TypeId} {cs : Array Value} {v : Value} (h : Blk w g t cs) (hv : cs[i]? = some v) : Below w.heap.size w (w.setCell ⟨g, i, none⟩ v) := by
 refine ⟨rfl, rfl, rfl, by simp [World.setCell], fun k hk => ?_⟩
 by_cases e : k = g
 ·
  subst e
  have := h.set_ i v
  rw [set_same hv] at this
  exact this.trans h.symm
 ·
  exact Below.heap_setCell w ⟨g, i, none⟩ v k e
theorem OwnRows.keep {α : Type} {E : Laid α} {t : TypeId} {w w' : World} {base b c : Nat} {A : Option Addr} {xs : List α} (h : OwnRows E t w base A c xs) (hk : ∀ k, k ≠ b → w'.heap[k]? = w.heap[k]?) (hne : ∀ cs, ¬ Blk w b t cs) : OwnRows E t w' base A c xs :=
 ⟨h.1, h.2.imp id fun ⟨g, cap, cur, e, h1, h2, r⟩ => ⟨g, cap, cur, e, h1, (hk g (by rintro rfl; exact hne cur h2)).trans h2, r⟩⟩
set_option maxRecDepth 8000 in
set_option maxHeartbeats 16000000 in
theorem build_c {w : World} {m : TpM} {bl : Nat} (h : TpIs w line16 m) (hL : Blk w bl 86 #[.int .i64 1, .int .i64 5, .int .i64 1]) :
  Calls Tryz.prog 33 #[.agg m.cells, .slice (some ⟨bl, 0, none⟩) 1 1, .int .i64 5, .int .i64 7, .bool false, .int .i64 40] w fun e w' => ∃ v : MaM, e = .returned (.tuple #[.agg (maC ma16 v), .int .i64 0]) ∧ OwnRows encSt 95 w' w.heap.size v.A1 v.c1 [⟨0, false⟩, ⟨1, false⟩] ∧ OwnRows encSc 122 w' w.heap.size v.A2 v.c2 [⟨290, 30⟩] ∧ v.n1 = 2 ∧ v.n2 = 1 ∧ Below w.heap.size w w' := by
 have hO : Own w _ [_, _] := Own.start2 w 27 42 m.cells #[.int .i64 0, .bool false, .slice none 0 0, .slice none 0 0, .int .i64 0]
 have hlo := fun W (hW : Below w.heap.size w W) => locate_c (h.below hW)
 have hch := fun W (hW : Below w.heap.size w W) => chain_c (h.below hW) (hL.below hW hL.lt)
 have hba := fun W (hW : Below w.heap.size w W) => bal_m (h.below hW) 7
 have hgo := fun W (hW : Below w.heap.size w W) => gone_c (h.below hW)
 have hbe := fun W => behind_c m W
 have hrt := fun W (hW : Below w.heap.size w W) => route_m (h.below hW) 1
 unfold RetRt at hrt
 rw [show routeT line16 1 = some ⟨1, [⟨0, false⟩, ⟨1, false⟩], 0, 30⟩ from rfl] at hrt
 simp only at hrt
 rw [show balT line16 7 = some ⟨7, 0, 10⟩ from rfl] at hba
 simp only [Option.getD_some, Option.isSome_some] at hba
 obtain ⟨i0, ev0, ge, offe, hi0, _, hie0, hA1, hke0, _⟩ := edge_at h (show thereT line16 0 = true by decide +kernel)
 obtain ⟨i1, ev1, ge1, offe1, hi1, _, hie1, hA11, hke1, _⟩ := edge_at h (show thereT line16 1 = true by decide +kernel)
 rw [hA1] at hA11
 simp only [Option.some.injEq, Addr.mk.injEq] at hA11
 obtain ⟨rfl, rfl, -⟩ := hA11
 rw [show edgeT line16 0 = 100 by decide +kernel] at hie0
 rw [show edgeT line16 1 = 200 by decide +kernel] at hie1
 obtain rfl : i0 = 0 := by omega
 obtain rfl : i1 = 1 := by omega
 subst hie0
 subst hie1
 simp only [Nat.add_zero] at hke0
 have hn1 : m.n1 = 3 := h.e1.symm
 have hq1 : 3 ≤ m.c1 := hn1 ▸ h.q1
 have mc0 : m.cells[0]? = some (.slice (some ⟨ge, offe, none⟩) 3 m.c1) := by
  rw [← hA1, ← hn1]
  rfl
 clear hi0 hi1 hA1 hn1
 unfold psV at *
 clear h hL
 go_enter Tryz.func33, Tryz.ntmps33
 go_wp2_with (first
  |((with_reducible refine own_loadg0 hO ?_ _ rfl rfl _ Tryz.underlying27 rfl (by kernel_rfl) ?_); (· first | rfl | (simp [Region.wanted, yielded]; done)))
  |(go_at_call 71; (with_reducible refine (hlo _ hO.below).mono ?_); rintro e w1 ⟨rfl, hb1⟩; replace hO := hO.grow hb1; have hO3 := hO.alloc 38 #[.int .i64 0, .int .i64 50, .bool false] w1.heap.size rfl; replace hO := hO3.alloc 95 #[.int .i64 0, .bool false] (w1.heap.size + 1) (by simp); simp only [List.cons_append, List.nil_append] at hO hO3; have hcp := hO3.b2.cell; have hcs := hO.b3.cell; clear hO3)
  |(go_at_call 73; (with_reducible refine (hch _ hO.below).mono ?_); rintro e w2 ⟨A, c, rfl, hRL, hb2⟩; replace hO := hO.grow hb2)
  |(go_at_call 50; (with_reducible refine (hba _ hO.below).mono ?_); rintro e w3 ⟨rfl, hb3⟩; replace hO := hO.grow hb3; replace hRL := hRL.below hb3; replace hO := hO.alloc 93 #[.int .i64 7, .int .i64 0, .int .i64 10] w3.heap.size rfl; simp only [List.cons_append, List.nil_append] at hO; replace hRL := hRL.alloc (.cells #[.int .i64 7, .int .i64 0, .int .i64 10] 93); have hcb := hO.b4.cell)
  |(go_at_call 74; (with_reducible refine (hgo _ hO.below).mono ?_); rintro e w4 ⟨g, rfl, hg, hbg, hb4⟩; have hgB : w.heap.size ≤ g := (Nat.le_trans hO.below.size hg); replace hO := hO.grow hb4; replace hRL := hRL.below hb4; replace hO := hO.alloc 42 #[.int .i64 7, .bool false, .slice (some ⟨g, 0, none⟩) 1 1, .slice none 0 0, .int .i64 0] w4.heap.size rfl; simp only [List.cons_append, List.nil_append] at hO; have hb4' : Below w4.heap.size w4 (w4.alloc (.cells #[.int .i64 7, .bool false, .slice (some ⟨g, 0, none⟩) 1 1, .slice none 0 0, .int .i64 0] 42)) := (Below.refl _ _).alloc (Nat.le_refl _) _; replace hbg := hbg.below hb4' hbg.lt; replace hRL := hRL.below hb4'; clear hb4'; have hcb2 := hO.b4.cell)
  |(go_at_call 75; (with_reducible refine (hbe _).mono ?_); rintro e w5 ⟨rfl, hb5⟩; replace hO := hO.grow hb5; replace hbg := hbg.below hb5 hbg.lt; replace hRL := hRL.below hb5; have hcm := hO.b5.cell))
 clear hlo hch hba hgo hbe hcp hcs hcb2
 go_loopw [21, 84] (fun a i wr => ∃ j : Nat, j ≤ 1 ∧ i = .int .i64 j ∧ a = .int .i64 (100 * (j : Int) - 10) ∧ Below w5.heap.size w5 wr) (fun _ i _ => 1 - (intOf i).toNat)
 case atStart => exact ⟨0, by omega, rfl, rfl, Below.refl _ _⟩
 case round =>
  obtain ⟨j, hj, rfl, rfl, hbr⟩ := hrel
  have hOr := hO.grow hbr
  have hbgr := hbg.below hbr hbg.lt
  have hRr := hRL.below hbr
  by_cases hz : j = 0
  ·
   subst hz
   have hgc := hbgr.cell
   have hO7 := hOr.alloc 95 #[.int .i64 0, .bool false] wr.heap.size rfl
   simp only [List.cons_append, List.nil_append] at hO7
   have hct := hO7.b0.cell
   have hcx := hO7.b6.cell
   have ke := hke0 _ hO7.below
   have hbr7 : Below w5.heap.size w5 (wr.alloc (.cells #[.int .i64 0, .bool false] 95)) := hbr.alloc hbr.size _
   go_wp2_with fail
   go_roundw
   case rel => exact ⟨1, by omega, rfl, rfl, hbr7⟩
   case measure => simp [intOf]
  ·
   obtain rfl : j = 1 := by omega
   clear hO hbg hRL hbr hz hj
   go_wp2_with fail
   obtain ⟨lb, lo, eA, hlb, hlc⟩ := hRr.get (i := 0) (x := ⟨1, 5, 1⟩) rfl
   subst eA
   have l0 := hlc 0 (.int .i64 1) rfl
   have l1 := hlc 1 (.int .i64 5) rfl
   have l2 := hlc 2 (.int .i64 1) rfl
   simp only [encLo, Nat.zero_mul, Nat.add_zero] at l0 l1 l2
   have hgw : w.heap.size ≤ g := by
    have := hOr.below.size
    exact Nat.le_trans (Nat.le_refl _) (by first | exact hgB | omega)
   have hog := own_one (B := w.heap.size) hbgr hgw
   clear hRr hlc
   generalize wr = wv at *
   go_loopw [21, 99] (fun a i w9 => (i = .int .i64 0 ∧ a = .int .i64 90 ∧ w9 = wv) ∨ (i = .int .i64 1 ∧ a = .int .i64 290 ∧ ∃ A2 c2 A3 c3, Own w w9 [(w.heap.size, 27, m.cells), (w.heap.size + 1, 42, #[.int .i64 0, .bool false, .slice none 0 0, .slice none 0 0, .int .i64 0]), (w4.heap.size, 42, #[.int .i64 7, .bool false, .slice A2 2 c2, .slice A3 1 c3, .int .i64 0])] ∧ OwnRows encSt 95 w9 w.heap.size A2 c2 [⟨0, false⟩, ⟨1, false⟩] ∧ OwnRows encSc 122 w9 w.heap.size A3 c3 [⟨290, 30⟩])) (fun _ i _ => 1 - (intOf i).toNat)
   case atStart => exact .inl ⟨rfl, rfl, rfl⟩
   case round =>
    rcases hrel with ⟨rfl, rfl, rfl⟩ | ⟨rfl, rfl, A2, c2, A3, c3, hO9, hp9, hs9⟩
    ·
     have hO7 := hOr.alloc 86 #[.int .i64 1, .int .i64 5, .int .i64 1] wr.heap.size rfl
     simp only [List.cons_append, List.nil_append] at hO7
     have hct := hO7.b6.cell
     replace hog := hog.alloc (.cells #[.int .i64 1, .int .i64 5, .int .i64 1] 86)
     go_wp2_with (first
      |((with_reducible refine own_loadg0 hO7 ?_ _ rfl rfl _ Tryz.underlying27 rfl (by kernel_rfl) ?_); (· first | rfl | (simp [Region.wanted, yielded]; done)))
      |(go_at_call 76; (with_reducible refine (hrt _ hO7.below).mono ?_); rintro e w6 ⟨⟨A, cr, rfl, hown⟩, hb6⟩; replace hO7 := hO7.grow hb6; replace hog := hog.below hb6; obtain ⟨ga, cur, eA, hga, hba, hsz, hc2, hc3, htk⟩ := hown.blk (hown.some_ (by decide)); subst eA; have hcr2 : 2 ≤ cr := hc2; have hcr1 : 1 < cr := hcr2; have hO8 := hO7.alloc 97 #[.int .i64 1, .slice (some ⟨ga, 0, none⟩) 2 cr, .int .i64 0, .int .i64 30] w6.heap.size rfl; simp only [List.cons_append, List.nil_append] at hO8; replace hown := hown.alloc (.cells #[.int .i64 1, .slice (some ⟨ga, 0, none⟩) 2 cr, .int .i64 0, .int .i64 30] 97); replace hog := hog.alloc (.cells #[.int .i64 1, .slice (some ⟨ga, 0, none⟩) 2 cr, .int .i64 0, .int .i64 30] 97); clear hba hsz htk cur hga; have hcr8 := hO8.b7.cell; have hcs8 := hO8.b3.cell; obtain ⟨bx, ox, ex, hbx, hcx⟩ := hown.rows.get (i := 0) (x := ⟨0, false⟩) rfl; simp only [Option.some.injEq, Addr.mk.injEq] at ex; obtain ⟨e1, e2, -⟩ := ex; subst e1; subst e2; have p0 := hcx 0 (.int .i64 0) rfl; have p1 := hcx 1 (.bool false) rfl; clear hcx; simp only [encSt, Nat.zero_add, Nat.zero_mul, Nat.add_zero] at p0 p1; have hix := ixSt1 ga 0 2 cr _ (by omega) hc2 hbx (by simpa using p0) (by simpa using p1))
      |(go_at_call 77; (with_reducible refine hix.mono ?_); rintro e w7 ⟨rfl, hb7⟩; clear hix; replace hO8 := hO8.grow hb7; replace hown := hown.below hb7; replace hog := hog.below hb7))
     have hO4 : Own w w7 [(w.heap.size, 27, m.cells), (w.heap.size + 1, 42, #[.int .i64 0, .bool false, .slice none 0 0, .slice none 0 0, .int .i64 0]), (w4.heap.size, 42, #[.int .i64 7, .bool false, .slice (some ⟨g, 0, none⟩) 1 1, .slice none 0 0, .int .i64 0]), (w6.heap.size, 97, #[.int .i64 1, .slice (some ⟨ga, 0, none⟩) 2 cr, .int .i64 0, .int .i64 30])] := ⟨hO8.below, fun x hx => hO8.blk x (by simp only [List.mem_cons, List.not_mem_nil, or_false] at hx ⊢; rcases hx with h | h | h | h <;> simp [h]), hO8.nodup.sublist (List.Sublist.map _ (.cons_cons _ (.cons_cons _ (.cons _ (.cons _ (.cons _ (.cons_cons _ (.cons _ (.cons_cons _ .slnil)))))))))⟩
     clear hO8 hO7
     obtain ⟨bx, ox, ex, hbx, hcx⟩ := hown.rows.get (i := 1) (x := ⟨1, false⟩) rfl
     simp only [Option.some.injEq, Addr.mk.injEq] at ex
     obtain ⟨e1, e2, -⟩ := ex
     subst e1
     subst e2
     have q0 := hcx 0 (.int .i64 1) rfl
     have q1 := hcx 1 (.bool false) rfl
     clear hcx
     simp only [encSt, Nat.zero_add, Nat.one_mul, Nat.add_zero] at q0 q1
     have k0 := fun W (hW : Below w7.heap.size w7 W) => (hW.cell (p := ⟨ga, 2, none⟩) hbx).trans q0
     have k1 := fun W (hW : Below w7.heap.size w7 W) => (hW.cell (p := ⟨ga, 2 + 1, none⟩) hbx).trans q1
     simp only [Nat.reduceAdd] at k1
     clear hown q0 q1
     go_loopw [21, 123] (fun a i wr => ∃ j : Nat, j ≤ 1 ∧ i = .int .i64 j ∧ a = .int .i64 (200 * (j : Int) + 90) ∧ Below w7.heap.size w7 wr) (fun _ i _ => 1 - (intOf i).toNat)
     case atStart => exact ⟨0, by omega, rfl, rfl, Below.refl _ _⟩
     case round =>
      obtain ⟨j, hj, rfl, rfl, hbr⟩ := hrel
      have hO5 := hO4.grow hbr
      have z0 := k0 _ hbr
      have z1 := k1 _ hbr
      by_cases hz : j = 0
      ·
       subst hz
       have hO7 := hO5.alloc 95 #[.int .i64 1, .bool false] wr.heap.size rfl
       simp only [List.cons_append, List.nil_append] at hO7
       have hct7 := hO7.b0.cell
       have hcx7 := hO7.b4.cell
       have ke := hke1 _ hO7.below
       have hbr7 : Below w7.heap.size w7 (wr.alloc (.cells #[.int .i64 1, .bool false] 95)) := hbr.alloc hbr.size _
       go_wp2_with fail
       go_roundw
       case rel => exact ⟨1, by omega, rfl, rfl, hbr7⟩
       case measure => simp [intOf]
      ·
       obtain rfl : j = 1 := by omega
       have hog7 := hog.below hbr
       have hrow : RowsAt encSt wr (some ⟨ga, 2, none⟩) [⟨1, false⟩] := fun _ => ⟨ga, 2, rfl, Nat.lt_of_lt_of_le hbx hbr.size, fun j u hu => by
        match j, hu with
        | 0, hu => cases hu; exact z0
        | 1, hu => cases hu; exact z1
        | j + 2, hu => simp [Laid.flat, encSt] at hu⟩
       have hcm := hO5.b2.cell
       clear hO4 hog hbr z0 z1
       go_wp2_with (first
        |(at_builtin; refine wpList_app_rows rowSt rfl _ _ rfl w.heap.size (some ⟨g, 0, none⟩) 1 [⟨0, false⟩] 1 rfl rfl hog7 (some ⟨ga, 2, none⟩) (cr - 1) [⟨1, false⟩] 1 rfl rfl hrow (by omega) (by decide) hO5.below.size ?_; intro A2 c2 w8 ho8 hg8 _; have hO6 : Own w w8 [(w.heap.size, 27, m.cells), (w.heap.size + 1, 42, #[.int .i64 0, .bool false, .slice none 0 0, .slice none 0 0, .int .i64 0]), (w4.heap.size, 42, #[.int .i64 7, .bool false, .slice (some ⟨g, 0, none⟩) 1 1, .slice none 0 0, .int .i64 0]), (w6.heap.size, 97, #[.int .i64 1, .slice (some ⟨ga, 0, none⟩) 2 cr, .int .i64 0, .int .i64 30])] := hO5.grown hg8 (fun g' e => by simp only [Option.map_some, Option.some.injEq] at e; subst e; refine ⟨hgw, fun x hx => ?_⟩; obtain ⟨gq, cq, eq, _, bq, _⟩ := hog7.blk (by simp); simp only [Option.some.injEq, Addr.mk.injEq, and_true] at eq; subst eq; simp only [List.mem_cons, List.not_mem_nil, or_false] at hx; rcases hx with rfl | rfl | rfl | rfl; exact blk_ne hO5.b0 bq (by decide); exact blk_ne hO5.b1 bq (by decide); exact blk_ne hO5.b2 bq (by decide); exact blk_ne hO5.b3 bq (by decide)); have hcm8 := hO6.b2.cell; have hfm8 := hO6.b2.frozen 2; have hOb : Own w (w8.setCell ⟨w4.heap.size, 2, none⟩ (.slice A2 2 c2)) [(w.heap.size, 27, m.cells), (w.heap.size + 1, 42, #[.int .i64 0, .bool false, .slice none 0 0, .slice none 0 0, .int .i64 0]), (w4.heap.size, 42, #[.int .i64 7, .bool false, .slice A2 2 c2, .slice none 0 0, .int .i64 0]), (w6.heap.size, 97, #[.int .i64 1, .slice (some ⟨ga, 0, none⟩) 2 cr, .int .i64 0, .int .i64 30])] := Own.change (L1 := [_, _]) hO6 (grown1 w8 _ 2 (.slice A2 2 c2)) (hO6.b2.set_ 2 _); replace ho8 := ho8.away (grown1 w8 w4.heap.size 2 (.slice A2 2 c2)) (blk_not hO6.b2 (by decide)); have hcm9 := hOb.b2.cell; have hcr9 := hOb.b3.cell; have hbs := Blk.new (w8.setCell ⟨w4.heap.size, 2, none⟩ (.slice A2 2 c2)) 122 #[.int .i64 290, .int .i64 30]; rw [show (w8.setCell ⟨w4.heap.size, 2, none⟩ (.slice A2 2 c2)).heap.size = w8.heap.size from by simp [World.setCell]] at hbs)
        |(at_builtin; refine wpList_app_rows rowSc rfl _ _ rfl w.heap.size none 0 [] 0 rfl rfl (OwnRows.nil _ _) _ 1 [⟨290, 30⟩] 1 rfl rfl (rows_blk hbs rfl) (by omega) (by decide) (Nat.le_trans hOb.below.size (by simp)) ?_; intro A3 c3 w10 hs10 hg10 _; have hb10 := below_none hg10; replace hOb := (hOb.grow ((Below.refl _ _).alloc (Nat.le_refl _) (.cells #[.int .i64 290, .int .i64 30] 122))).grow hb10; replace ho8 := (ho8.alloc (.cells #[.int .i64 290, .int .i64 30] 122)).below hb10; have hcm10 := hOb.b2.cell; have hfm10 := hOb.b2.frozen 3; have hOc : Own w (w10.setCell ⟨w4.heap.size, 3, none⟩ (.slice A3 1 c3)) [(w.heap.size, 27, m.cells), (w.heap.size + 1, 42, #[.int .i64 0, .bool false, .slice none 0 0, .slice none 0 0, .int .i64 0]), (w4.heap.size, 42, #[.int .i64 7, .bool false, .slice A2 2 c2, .slice A3 1 c3, .int .i64 0]), (w6.heap.size, 97, #[.int .i64 1, .slice (some ⟨ga, 0, none⟩) 2 cr, .int .i64 0, .int .i64 30])] := Own.change (L1 := [_, _]) hOb (grown1 w10 _ 3 (.slice A3 1 c3)) (hOb.b2.set_ 3 _); replace ho8 := ho8.away (grown1 w10 w4.heap.size 3 (.slice A3 1 c3)) (blk_not hOb.b2 (by decide)); replace hs10 := hs10.away (grown1 w10 w4.heap.size 3 (.slice A3 1 c3)) (blk_not hOb.b2 (by decide)); have hcm11 := hOc.b2.cell; have hcr11 := hOc.b3.cell; have hfm11 := hOc.b2.frozen 4; have hOd : Own w ((w10.setCell ⟨w4.heap.size, 3, none⟩ (.slice A3 1 c3)).setCell ⟨w4.heap.size, 4, none⟩ (.int .i64 0)) [(w.heap.size, 27, m.cells), (w.heap.size + 1, 42, #[.int .i64 0, .bool false, .slice none 0 0, .slice none 0 0, .int .i64 0]), (w4.heap.size, 42, #[.int .i64 7, .bool false, .slice A2 2 c2, .slice A3 1 c3, .int .i64 0]), (w6.heap.size, 97, #[.int .i64 1, .slice (some ⟨ga, 0, none⟩) 2 cr, .int .i64 0, .int .i64 30])] := Own.change (L1 := [_, _]) hOc (grown1 _ _ 4 (.int .i64 0)) (hOc.b2.set_ 4 _); replace ho8 := ho8.away (grown1 _ w4.heap.size 4 (.int .i64 0)) (blk_not hOc.b2 (by decide)); replace hs10 := hs10.away (grown1 _ w4.heap.size 4 (.int .i64 0)) (blk_not hOc.b2 (by decide))))
       go_roundw
       case rel => exact ⟨.int .i64 290, _, _, _, _, _, _, .int .i64 1, .inr ⟨rfl, rfl, A2, c2, A3, c3, Own.sub (L1 := [_, _, _]) (L2 := [_]) hOd, ho8, hs10⟩, rfl, rfl, rfl, rfl, rfl, rfl, rfl, rfl⟩
       case measure => simp [intOf]
    ·
     have hcm := hO9.b2.cell
     go_wp2_with fail
     obtain ⟨gs, cus, eS, hgs, hbs, hszs, hcs1, hcs2, htks⟩ := hs9.blk (hs9.some_ (by decide))
     subst eS
     have s0 := htks
     clear hcm
     generalize wr = w9 at *
     have hq := fun W (hW : Below w9.heap.size w9 W) => (hs9.below hW).rows.get (i := 0) (x := ⟨290, 30⟩) rfl
     have hq0 : ∀ W, Below w9.heap.size w9 W → W.cell? ⟨gs, 0, none⟩ = some (.int .i64 290) := fun W hW => by
      obtain ⟨b, off, e, _, hc⟩ := hq W hW
      simp only [Option.some.injEq, Addr.mk.injEq] at e
      obtain ⟨rfl, rfl, -⟩ := e
      have := hc 0 (.int .i64 290) rfl
      simpa [encSc] using this
     have hc31 : (1 : Nat) ≤ c3 := hcs1
     have hc30 : 0 < c3 := hc31
     clear hq htks s0
     apply wp_region_lextu (Below (w9).heap.size) (fun W => below_drewN (Below.refl _ _) 1) (fun _ _ _ h1 h2 => h1.trans h2) (WaysB (w9).heap.size 999) (fun _ _ _ h => h.1) (fun _ _ => waysB_same _ _ _ _) (fun _ _ => True) (fun _ => trivial) (fun _ _ _ _ _ _ _ => trivial)
     case hFl =>
      intro u
      simp only [List.map, fill, Act.put, List.setIfInBounds_toArray, List.set_cons_zero, List.set_cons_succ, Nat.reduceAdd, Nat.zero_add]
      with_reducible rfl
     case hm => kernel_rfl
     case hB => kernel_rfl
     case hA => kernel_rfl
     case hap => kernel_rfl
     repeat (first
      |(
        apply LexTU.is
        ·
         (
         intro u w' hk hpre hd
         simp [WaitedU, Region.binds, Own1, Is] at hd
         refine lookedT_want ?_ ?_
         ·
          first
          | rfl
          |(simp [Region.wanted, yielded, hd]; done)
         intro K hK
         have hO2 := hO9.grow hk; have hcy := hO2.b2.cell; have m2 := hq0 _ hk
         go_wp2_with (fail)
         try simp only [hd] at hK
         refine hK _ _ ?_ rfl
         first | exact waysB_same _ _ _ _ | exact waysB_below hk.size hb3 (by decide)))
      |(
        refine LexTU.one (BoxB (w9).heap.size 75 (#[.int .i64 0] : Array Value).size) ?_ ?_
        ·
         (
         intro u w' hk hpre hd
         clear hd
         refine lookedT_want ?_ ?_
         ·
          first
          | rfl
          |(simp [Region.wanted, yielded]; done)
         intro K hK
         go_wp2_with fail
         exact hK _ _ (waysB_below hk.size ((Below.refl _ _).alloc (Nat.le_refl _) _) (by decide)) ⟨w'.heap.size, _, rfl, hk.size, Blk.new w' 75 (#[.int .i64 0] : Array Value), rfl⟩))
      |(
        refine LexTU.word (FullB (w9).heap.size 999 75 (#[.int .i64 0])) ?_ ?_
        ·
         (
         intro u w' hk hpre hd
         simp [WaitedU, Region.binds, Own1, Is] at hd
         obtain ⟨⟨g, cs, hpg, hg, hbk, hsz⟩, hx⟩ := hd
         refine lookedU_want ?_ ?_
         ·
          first
          | rfl
          |(simp [Region.wanted, yielded]; done)
         intro K hK
         have hfar : ∀ k, k ≠ g → (w'.setRow g (#[.int .i64 0])).heap[k]? = w'.heap[k]? := fun k hk => setRow_other w' g k _ hk
         exact wp_store_row 75 _ _ rfl g (#[.int .i64 0]) (by first | exact hpg | (rw [← hpg]; rfl)) (by first | exact hx | exact hx.1 | (rw [← hx.1]; rfl) | (rw [← hx]; rfl)) 75 cs hbk (by kernel_rfl) hsz (by first | (simp [Value.oneCell']; done) | exact trC_ones _ _) (hK undef _
          ⟨below_row (Below.refl _ _) hg _, fun h => absurd rfl h, fun _ => .inr ⟨g, _, cs, (#[.int .i64 0]), hbk, hbk.row _, hsz.symm, by simp, hfar⟩⟩
          ⟨g, by rw [upd_other u undef (by decide)]; exact hpg, hg, hbk.row _⟩))))
     refine LexTU.last (stB_last ?_) ?_
     ·
      simp only [List.nil_append, List.cons_append]
      repeat (refine ⟨?_, ?_⟩; · first | exact stableB_is _ | exact stableB_box | exact stableB_full (fun i hf e => hf _ rfl ⟨999, .data⟩ (by simp) rfl e.symm))
      exact trivial
     intro u w2 hk2 _ hd
     simp only [List.nil_append, List.cons_append] at hd
     refine ⟨rfl, ?_⟩
     intro K hK
     have h8 := hd 8 _ rfl
     have h10 := hd 10 _ rfl
     simp only [Own1, Is] at h8 h10
     clear hd
     have m2 := hq0 _ hk2
     have hbk2 := hbs.below hk2 hbs.lt
     have hfz := hbk2.frozen 0
     simp only [h8, h10]
     clear h8 h10
     have hcu : cus[0]? = some (.int .i64 290) := (hbk2.cell 0).symm.trans m2
     have hbn := set_noop hbk2 hcu
     have hbx := below_then hk2 hbn
     have hOx := hO9.grow hbx
     have hpx := hp9.below hbx
     have hsx := hs9.below hbx
     have htw := fun W (hW : Below (w2.setCell ⟨gs, 0, none⟩ (.int .i64 290)).heap.size (w2.setCell ⟨gs, 0, none⟩ (.int .i64 290)) W) => twice_k A2 2 c2 [⟨0, false⟩, ⟨1, false⟩] W ((hpx.below hW).rows) rfl (by decide) hpx.cap.1
     rw [show twiceP [] [⟨0, false⟩, ⟨1, false⟩] = false by decide +kernel] at htw
     have hqx : ∀ W, Below (w2.setCell ⟨gs, 0, none⟩ (.int .i64 290)).heap.size (w2.setCell ⟨gs, 0, none⟩ (.int .i64 290)) W → W.cell? ⟨gs, 0, none⟩ = some (.int .i64 290) := fun W hW => hq0 W (below_then hbx hW)
     have hcm3 := hOx.b2.cell
     clear hq0
     go_wp2_with (first
      |(go_at_call 78; (with_reducible refine (htw _ (Below.refl _ _)).mono ?_); rintro e wt ⟨rfl, hbt⟩; replace hOx := hOx.grow hbt; replace hpx := hpx.below hbt; replace hsx := hsx.below hbt; have hqt := hqx _ hbt; replace hqx := fun W (hW : Below wt.heap.size wt W) => hqx W (below_then hbt hW); have hcm4 := hOx.b2.cell))
     apply wp_region_lex
     case hFl => intro u; simp only [List.map, fill, Act.put, List.setIfInBounds_toArray, List.set_cons_zero, List.set_cons_succ, Nat.reduceAdd, Nat.zero_add]; with_reducible rfl
     case hm => kernel_rfl
     case hB => kernel_rfl
     case hap => kernel_rfl
     repeat (first | (apply Lex.is; · (intro u w' hk hd; simp [Waited, Region.binds, Is] at hd; refine looked_want ?_ ?_; (· (first | rfl | (simp [Region.wanted, yielded, hd]; done))); intro K hK; skip; go_wp2_with (fail); (try simp only [hd] at hK); refine hK _ _ ?_ rfl; first | exact Below.refl _ _ | exact hb3)) | (refine Lex.is (c := undef) ?_ ?_; · (intro u w' hk hd; simp [Waited, Region.binds, Is] at hd; exact looked_skip (by simp [Region.wanted, yielded, hd]) rfl)))
     apply Lex.nil
     intro u w' hk hd
     simp only [List.nil_append, List.cons_append] at hd
     have hlast := hd 18 _ rfl
     simp only [Is] at hlast
     clear hd
     simp only [hlast]
     replace hOx := hOx.grow hk
     replace hpx := hpx.below hk
     replace hsx := hsx.below hk
     have hq5 := hqx _ hk
     have hcm5 := hOx.b2.cell
     clear hk hlast hqx hqt hcm4 hcm3
     go_wp2_with (first
      |((with_reducible refine own_loadg2 hOx ?_ _ rfl rfl _ Tryz.underlying42 rfl (by kernel_rfl) ?_); (· first | rfl | (simp [Region.wanted, yielded]; done)))
      |((with_reducible refine own_row1 #[.int .i64 7, .bool false, .slice A2 2 c2, .slice (some ⟨gs, 0, none⟩) 1 c3, .int .i64 0] hOx rfl _ _ rfl rfl rfl (by kernel_rfl) rfl (by kernel_rfl) ?_); intro wR hOR hszR hkR))
     replace hpx := hpx.keep hkR (blk_not hOx.b1 (by decide))
     replace hsx := hsx.keep hkR (blk_not hOx.b1 (by decide))
     exact bodyPost_ret (results_ct1 Tryz.results33 _ _ _ _ _ _ rfl rfl hOR.b1 Tryz.underlying42 rfl (by kernel_rfl)) rfl ⟨⟨A2, 2, c2, some ⟨gs, 0, none⟩, 1, c3⟩, rfl, hpx, hsx, rfl, rfl, hOR.below⟩
open Go.RowKit Go.Shelf
def heldM (v : MaM) : TrM := ⟨q19, 1, v, none, 0, 0⟩
theorem held_sz (v : MaM) : (putAt (trC new19 newM) 40 #[.int .i64 7, .bool false, .slice v.A1 v.n1 v.c1, .slice v.A2 v.n2 v.c2, .int .i64 0].toList).size = 48 := rfl
set_option maxRecDepth 8000 in
set_option maxHeartbeats 8000000 in
theorem holds_c (w : World) : Calls Tryz.prog 16 #[] w fun e w' => ∃ v, e = .returned (.tuple #[.agg (trC train19 (heldM v)), .int .i64 0]) ∧ TrIs w' train19 (heldM v) ∧ Below w.heap.size w w' := by
 have hO : Own w _ [_] := (Own.nil w).alloc 44 #[.int .i64 0, .int .i64 0, .int .i64 0, .int .i64 0, .int .i64 0, .int .i64 0, .int .i64 0, .int .i64 0, .int .i64 0, .int .i64 0, .int .i64 0, .int .i64 0, .int .i64 0, .int .u32 0, .int .u32 0, .int .u32 0, .int .u32 0, .int .i64 0, .int .u32 0, .int .u32 0, .int .u32 0, .int .u32 0, .int .u32 0, .int .u32 0, .bool false, .int .u32 0, .int .u32 0, .int .u32 0, .int .i64 0, .int .i64 0, .int .i64 0, .bool false, .int .i64 0, .bool false, .int .i64 0, .int .i64 0, .bool false, .int .i64 0, .int .i64 0, .bool false, .int .i64 0, .bool false, .slice none 0 0, .slice none 0 0, .int .i64 0, .int .i64 0, .bool false, .slice none 0 0] _ rfl
 have hli := fun W => line_k W
 unfold TpM.cells at hli
 go_enter Tryz.func16, Tryz.ntmps16
 go_wp2_with (first
  |(go_at_call 17; (with_reducible refine (hli _).mono ?_); rintro e w1 ⟨m, rfl, hT, hb1⟩; replace hO := hO.grow hb1; replace hO := hO.alloc 27 #[.slice m.A1 m.n1 m.c1, .slice m.A2 m.n2 m.c2, .slice m.A3 m.n3 m.c3, .slice m.A4 m.n4 m.c4] w1.heap.size rfl; simp only [List.cons_append, List.nil_append] at hO; replace hT := hT.below (((Below.refl _ _).alloc (Nat.le_refl _) (.cells #[.slice m.A1 m.n1 m.c1, .slice m.A2 m.n2 m.c2, .slice m.A3 m.n3 m.c3, .slice m.A4 m.n4 m.c4] 27)))))
 generalize hge : (w1.alloc (.cells #[.slice m.A1 m.n1 m.c1, .slice m.A2 m.n2 m.c2, .slice m.A3 m.n3 m.c3, .slice m.A4 m.n4 m.c4] 27)) = W0 at *
 clear hge
 have hnw := fun W (hW : Below W0.heap.size W0 W) => new_c (hT.below hW)
 unfold TpM.cells at *
 apply wp_region_lextu (Below (W0).heap.size) (fun W => below_drewN (Below.refl _ _) 1) (fun _ _ _ h1 h2 => h1.trans h2) (WaysB (W0).heap.size 8) (fun _ _ _ h => h.1) (fun _ _ => waysB_same _ _ _ _) (fun _ _ => True) (fun _ => trivial) (fun _ _ _ _ _ _ _ => trivial)
 case hFl =>
  intro u
  simp only [List.map, fill, Act.put, List.setIfInBounds_toArray, List.set_cons_zero, List.set_cons_succ, Nat.reduceAdd, Nat.zero_add]
  with_reducible rfl
 case hm => kernel_rfl
 case hB => kernel_rfl
 case hA => kernel_rfl
 case hap => kernel_rfl
 repeat (first
  |(
    apply LexTU.is
    ·
     (
     intro u w' hk hpre hd
     simp [WaitedU, Region.binds, Own1, Is] at hd
     refine lookedT_want ?_ ?_
     ·
      first
      | rfl
      |(simp [Region.wanted, yielded, hd]; done)
     intro K hK
     have hO2 := hO.grow hk; have hcy := hO2.b1.cell
     go_wp2_with ((first | (go_at_call 32; (with_reducible refine (rules19_k _).mono ?_); rintro e w3 ⟨rfl, hb3⟩) | (go_at_call 31; (with_reducible refine (hnw _ hk).mono ?_); rintro e w3 ⟨rfl, hb3⟩)))
     try simp only [hd] at hK
     refine hK _ _ ?_ rfl
     first | exact waysB_same _ _ _ _ | exact waysB_below hk.size hb3 (by decide)))
  |(
    refine LexTU.one (BoxB (W0).heap.size 44 (#[.int .i64 0, .int .i64 0, .int .i64 0, .int .i64 0, .int .i64 0, .int .i64 0, .int .i64 0, .int .i64 0, .int .i64 0, .int .i64 0, .int .i64 0, .int .i64 0, .int .i64 0, .int .u32 0, .int .u32 0, .int .u32 0, .int .u32 0, .int .i64 0, .int .u32 0, .int .u32 0, .int .u32 0, .int .u32 0, .int .u32 0, .int .u32 0, .bool false, .int .u32 0, .int .u32 0, .int .u32 0, .int .i64 0, .int .i64 0, .int .i64 0, .bool false, .int .i64 0, .bool false, .int .i64 0, .int .i64 0, .bool false, .int .i64 0, .int .i64 0, .bool false, .int .i64 0, .bool false, .slice none 0 0, .slice none 0 0, .int .i64 0, .int .i64 0, .bool false, .slice none 0 0] : Array Value).size) ?_ ?_
    ·
     (
     intro u w' hk hpre hd
     clear hd
     refine lookedT_want ?_ ?_
     ·
      first
      | rfl
      |(simp [Region.wanted, yielded]; done)
     intro K hK
     go_wp2_with fail
     exact hK _ _ (waysB_below hk.size ((Below.refl _ _).alloc (Nat.le_refl _) _) (by decide)) ⟨w'.heap.size, _, rfl, hk.size, Blk.new w' 44 (#[.int .i64 0, .int .i64 0, .int .i64 0, .int .i64 0, .int .i64 0, .int .i64 0, .int .i64 0, .int .i64 0, .int .i64 0, .int .i64 0, .int .i64 0, .int .i64 0, .int .i64 0, .int .u32 0, .int .u32 0, .int .u32 0, .int .u32 0, .int .i64 0, .int .u32 0, .int .u32 0, .int .u32 0, .int .u32 0, .int .u32 0, .int .u32 0, .bool false, .int .u32 0, .int .u32 0, .int .u32 0, .int .i64 0, .int .i64 0, .int .i64 0, .bool false, .int .i64 0, .bool false, .int .i64 0, .int .i64 0, .bool false, .int .i64 0, .int .i64 0, .bool false, .int .i64 0, .bool false, .slice none 0 0, .slice none 0 0, .int .i64 0, .int .i64 0, .bool false, .slice none 0 0] : Array Value), rfl⟩))
  |(
    refine LexTU.word (FullB (W0).heap.size 7 44 (trC new19 newM)) ?_ ?_
    ·
     (
     intro u w' hk hpre hd
     simp [WaitedU, Region.binds, Own1, Is] at hd
     obtain ⟨⟨g, cs, hpg, hg, hbk, hsz⟩, hx⟩ := hd
     refine lookedU_want ?_ ?_
     ·
      first
      | rfl
      |(simp [Region.wanted, yielded]; done)
     intro K hK
     have hfar : ∀ k, k ≠ g → (w'.setRow g (trC new19 newM)).heap[k]? = w'.heap[k]? := fun k hk => setRow_other w' g k _ hk
     exact wp_store_row 44 _ _ rfl g (trC new19 newM) (by first | exact hpg | (rw [← hpg]; rfl)) (by first | exact hx | exact hx.1 | (rw [← hx.1]; rfl) | (rw [← hx]; rfl)) 44 cs hbk (by kernel_rfl) hsz (by first | (simp [Value.oneCell']; done) | exact trC_ones _ _) (hK undef _
      ⟨below_row (Below.refl _ _) hg _, fun h => absurd rfl h, fun _ => .inr ⟨g, _, cs, (trC new19 newM), hbk, hbk.row _, hsz.symm, by simp, hfar⟩⟩
      ⟨g, by rw [upd_other u undef (by decide)]; exact hpg, hg, hbk.row _⟩))))
 refine LexTU.last (stB_last ?_) ?_
 ·
  simp only [List.nil_append, List.cons_append]
  repeat (refine ⟨?_, ?_⟩; · first | exact stableB_is _ | exact stableB_box | exact stableB_full (fun i hf e => hf _ rfl ⟨7, .data⟩ (by simp) rfl e.symm))
  exact trivial
 intro u w2 hk2 _ hd
 simp only [List.nil_append, List.cons_append] at hd
 refine ⟨rfl, ?_⟩
 intro K hK
 obtain ⟨gx, hu7, hgx, hbk⟩ := hd 8 _ rfl
 have hu6 := hd 6 _ rfl
 simp only [Own1, Is] at hu6
 clear hd
 have hO3 := (hO.grow hk2).add hbk (Nat.le_trans hO.below.size hgx) (fun x hx => by have := (hO.blk x hx).2.lt; omega)
 simp only [List.cons_append, List.nil_append] at hO3
 have hT2 := hT.below hk2
 simp only [hu6, hu7]
 clear hu6 hu7 hk2
 have hO4 := hO3.alloc 86 #[.int .i64 1, .int .i64 5, .int .i64 1] w2.heap.size rfl
 simp only [List.cons_append, List.nil_append] at hO4
 have hT3 := hT2.below ((Below.refl _ _).alloc (Nat.le_refl _) (.cells #[.int .i64 1, .int .i64 5, .int .i64 1] 86))
 have hbd := build_c hT3 hO4.b3
 simp only [TpM.cells, maC, ma16] at hbd
 have hct := hO3.b1.cell
 go_wp2_with (first
  |(go_at_call 33; (with_reducible refine hbd.mono ?_); rintro e w5 ⟨v, rfl, hP, hS, hn1, hn2, hb5⟩; have HN := Lib.hid (And.intro hn1 hn2); clear hn1 hn2; replace hO4 := hO4.grow hb5; have hO5 := hO4.alloc 42 #[.int .i64 7, .bool false, .slice v.A1 v.n1 v.c1, .slice v.A2 v.n2 v.c2, .int .i64 0] w5.heap.size rfl; simp only [List.cons_append, List.nil_append] at hO5; replace hP := hP.alloc (.cells #[.int .i64 7, .bool false, .slice v.A1 v.n1 v.c1, .slice v.A2 v.n2 v.c2, .int .i64 0] 42); replace hS := hS.alloc (.cells #[.int .i64 7, .bool false, .slice v.A1 v.n1 v.c1, .slice v.A2 v.n2 v.c2, .int .i64 0] 42); have hcm := hO5.b4.cell)
  |((with_reducible refine own_mid2 40 #[.int .i64 7, .bool false, .slice v.A1 v.n1 v.c1, .slice v.A2 v.n2 v.c2, .int .i64 0] hO5 rfl _ _ _ rfl rfl rfl (by kernel_rfl) (by simp [trC_size]) (by kernel_rfl) ?_); intro wR hOR hszR hkR; replace hP := hP.keep hkR (blk_not hO5.b2 (by decide)); replace hS := hS.keep hkR (blk_not hO5.b2 (by decide)))
  |((with_reducible refine own_cell2 45 (.int .i64 3) hOR rfl _ _ _ rfl rfl rfl (by kernel_rfl) (by rw [held_sz]; decide) rfl ?_); intro wS hOS hszS hkS; replace hP := hP.keep hkS (blk_not hOR.b2 (by decide)); replace hS := hS.keep hkS (blk_not hOR.b2 (by decide)))
  |((with_reducible refine own_cell2 46 (.bool true) hOS rfl _ _ _ rfl rfl rfl (by kernel_rfl) (by rw [Array.size_setIfInBounds, held_sz]; decide) rfl ?_); intro wU hOU hszU hkU; replace hP := hP.keep hkU (blk_not hOS.b2 (by decide)); replace hS := hS.keep hkU (blk_not hOS.b2 (by decide)); have hOF : Own w wU [_, _, (gx, 44, trC train19 (heldM v)), _, _] := hOU)
  |((with_reducible refine own_loadg2 hOF ?_ _ rfl rfl _ Tryz.underlying44 rfl (trC_info _ _) ?_); (· first | rfl | (simp [Region.wanted, yielded]; done)))
  |((with_reducible refine own_row0 (trC train19 (heldM v)) hOF rfl _ _ rfl rfl rfl (trC_info _ _) rfl (trC_ones _ _) ?_); intro wV hOV hszV hkV; replace hP := hP.keep hkV (blk_not hOF.b0 (by decide)); replace hS := hS.keep hkV (blk_not hOF.b0 (by decide))))
 obtain ⟨hn1, hn2⟩ := HN.out
 have hTr : TrIs wV train19 (heldM v) := ⟨⟨hP.rows, hS.rows, hn1.symm, hn2.symm, by show v.n1 ≤ 100; omega, by show v.n2 ≤ 100; omega, by show v.n1 ≤ v.c1; rw [hn1]; exact hP.cap.1, by show v.n2 ≤ v.c2; rw [hn2]; exact hS.cap.1⟩, RowsAt.nil _ _, rfl, by simp [heldM], by simp [heldM]⟩
 exact bodyPost_ret (results_ct1 Tryz.results16 _ _ _ _ _ _ rfl rfl hOV.b0 Tryz.underlying44 rfl (trC_info _ _)) rfl ⟨v, rfl, hTr, hOV.below⟩
end Go.Proofs.YtkaggddmhjifjaaGreatDoor
