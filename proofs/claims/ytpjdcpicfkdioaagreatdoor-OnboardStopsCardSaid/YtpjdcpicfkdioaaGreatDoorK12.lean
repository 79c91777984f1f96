/- Texts in one: SpanG SpanT. -/
import Derived.Test.YtpjdcpicfkdioaaGreatDoorK11
import Derived.Test.YtpjdcpicfkdioaaGreatDoorK07
/- span.Norm: the walk. -/
set_option linter.unusedSimpArgs false
set_option linter.unusedVariables false
namespace Go.Proofs.YtpjdcpicfkdioaaGreatDoor
open Go.RowKit Go.Shelf Go.Sort

theorem set_last {α : Type} {zs : List α} {p : Nat} {o v : α} (h : zs.reverse = o :: (zs.take p).reverse) (hp : p < zs.length) : (zs.set p v).reverse = v :: (zs.take p).reverse := by
  have e : zs = zs.take p ++ [o] := by
    have := congrArg List.reverse h
    simpa using this
  have hl : (zs.take p).length = p := by
    rw [List.length_take]
    omega
  generalize zs.take p = tk at *
  subst e
  subst hl
  simp
theorem set_same {cur : Array Value} {i : Nat} {v : Value} (h : cur[i]? = some v) : cur.setIfInBounds i v = cur := by
  apply Array.ext_getElem?
  intro j
  rw [Array.getElem?_setIfInBounds]
  split
  · rename_i e
    subst e
    split
    · rw [h]
    · rename_i h2
      rw [Array.getElem?_eq_none (by omega)]
  · rfl
def NormSt (o y : Sp) (zs ys : List Sp) (p j : Nat) (xs : List Sp) : Prop := (if o.edge = y.edge ∧ y.lo ≤ o.hi then joinT (⟨o.edge, o.lo, max o.hi y.hi⟩ :: (zs.take p).reverse) (ys.drop (j + 1)) else joinT (y :: o :: (zs.take p).reverse) (ys.drop (j + 1))).reverse = normT xs ∧ zs.reverse = o :: (zs.take p).reverse ∧ zs[p]? = some o
set_option maxRecDepth 8000 in
set_option maxHeartbeats 8000000 in
theorem norm_k (A : Option Addr) (n c : Nat) (xs : List Sp) (w : World) (hr : RowsAt encSp w A xs) (hn : xs.length = n) (hl : n ≤ 1000) : Calls Tryz.prog 28 #[.slice A n c] w fun e w' => ∃ A' c', e = .returned (.slice A' (normT xs).length c') ∧ OwnRows encSp 83 w' w.heap.size A' c' (normT xs) ∧ Below w.heap.size w w' := by
  have hcl := clSp_k A n c xs w hr hn (by omega)
  have hlf : (xs.filter someT).length ≤ 1000 := Nat.le_trans (List.length_filter_le _ _) (by omega)
  have HN := Lib.hid hn
  clear hr hn
  go_enter Tryz.func28, Tryz.ntmps28
  go_wp2_with (first
    | (go_at_call 61; (with_reducible refine hcl.mono ?_); rintro e w1 ⟨A0, c0, rfl, ho1, hb1⟩)
    | (go_at_call 60; (with_reducible refine (delSp_k _ _ _ _ _ _ ho1 HN.out hl).mono ?_); rintro e w2 ⟨rfl, ho2, hg2⟩; have hb2 := below_grown hb1 ho1 hb1.size hg2)
    | (go_at_call 64; (with_reducible refine (sortSp_k _ _ _ _ _ _ ho2 rfl hlf).mono ?_); rintro e w3 ⟨rfl, ys, hperm, hsorted, ho3, hg3⟩; have hb3 := below_grown hb2 ho2 hb2.size hg3))
  have hR : (joinT [] ys).reverse = normT xs := norm_any hperm hsorted
  have hly : ys.length = (xs.filter someT).length := hperm.length_eq
  generalize (xs.filter someT).length = m at *
  have HR := Lib.hid (And.intro hR hly)
  have hys := ho3.rows
  have hB0 := hb3.size
  clear hR hly hcl ho1 ho2 ho3 hg2 hg3 hb1 hb2 hperm hsorted HN
  go_loopw [4, 15] (fun s4 s15 wr => ∃ (A1 : Option Addr) (c1 k j : Nat) (zs : List Sp), s4 = .slice A1 k c1 ∧ s15 = .int .i64 j ∧ j ≤ m ∧ k ≤ j ∧ Hid ((joinT zs.reverse (ys.drop j)).reverse = normT xs) ∧ Hid (zs.length = k) ∧ OwnRows encSp 83 wr w3.heap.size A1 c1 zs ∧ Below w3.heap.size w3 wr) (fun _ s15 _ => m - (intOf s15).toNat)
  case atStart => exact ⟨none, 0, 0, 0, [], rfl, rfl, by omega, by omega, Lib.hid (by simpa using HR.out.1), Lib.hid rfl, OwnRows.nil _ _, Below.refl _ _⟩
  case round =>
    obtain ⟨A1, c1, k, j, zs, rfl, rfl, hjm, hkj, hJ, hK, ho, hb⟩ := hrel
    have hyr := hys.below hb
    by_cases hlt : j < m
    · obtain ⟨y, hy⟩ := get_some HR.out.2 hlt
      obtain ⟨b0, off0, rfl, hbl, hc⟩ := hyr.get hy
      have kk0 := hc 0 (.int .i64 y.edge) rfl
      have kk1 := hc 1 (.int .i64 y.lo) rfl
      have kk2 := hc 2 (.int .i64 y.hi) rfl
      simp only [encSp, Nat.zero_add, Nat.add_zero] at kk0 kk1 kk2
      have hd1 : ys.drop j = y :: ys.drop (j + 1) := by
        obtain ⟨h1, h2⟩ := List.getElem?_eq_some_iff.1 hy
        rw [List.drop_eq_getElem_cons h1, h2]
      have HD := Lib.hid hd1
      have hO1 : Own wr _ [_] := (Own.nil wr).alloc 83 #[.int .i64 y.edge, .int .i64 y.lo, .int .i64 y.hi] _ rfl
      clear hc hy hyr hd1
      obtain ⟨y1, y2, y3⟩ := y
      simp only at kk0 kk1 kk2 hO1
      rcases Nat.eq_zero_or_pos k with hk0 | hk0
      · subst hk0
        have hz : zs = [] := List.length_eq_zero_iff.1 hK.out
        subst hz
        go_wp2_with fail
        replace ho := ho.below hO1.below
        replace hb := hb.trans (hO1.below.mono hb.size)
        generalize hge : (wr.alloc (.cells #[.int .i64 y1, .int .i64 y2, .int .i64 y3] 83)) = W0 at *
        clear hge kk0 kk1 kk2
        apply wp_region_lex
        case hFl =>
          intro u
          simp only [List.map, fill, Act.put, List.setIfInBounds_toArray, List.set_cons_zero, List.set_cons_succ, Nat.reduceAdd, Nat.zero_add]
          rfl
        case hm => kernel_rfl
        case hB => kernel_rfl
        case hap => kernel_rfl
        repeat (first
          | (apply Lex.is
             · (intro u w' hk hd
                simp [Waited, Region.binds, Is] at hd
                refine looked_want ?_ ?_
                · first
                  | rfl
                  | (simp [Region.wanted, yielded, hd]; done)
                intro K hK
                have hO2 := hO1.grow hk; have hcy := hO2.b0.cell
                go_wp2_with (fail)
                try simp only [hd] at hK
                refine hK _ _ ?_ rfl
                first | exact Below.refl _ _ | exact hb3))
          | (refine Lex.is (c := undef) ?_ ?_
             · (intro u w' hk hd
                simp [Waited, Region.binds, Is] at hd
                refine looked_skip ?_ rfl
                first
                | (simp [Region.wanted, yielded, hd]; done)
                | (simp [Region.wanted, yielded, hd, undef]; done))))
        apply Lex.nil
        intro u w' hk hd
        simp only [List.nil_append, List.cons_append] at hd
        have hlast := hd 21 _ rfl
        simp only [Is] at hlast
        clear hd
        simp only [hlast]
        replace ho := ho.below hk
        replace hb := hb.trans (hk.mono hb.size)
        replace hO1 := hO1.grow hk
        have hcy := hO1.b0.cell
        clear hk hlast
        go_wp2_with (at_builtin; refine wpList_app_rows rowSp rfl _ _ rfl w3.heap.size A1 c1 [] 0 rfl rfl (ho.below ((Below.refl _ _).alloc (Nat.le_refl _) _)) (some ⟨w'.heap.size, 0, none⟩) 1 [⟨y1, y2, y3⟩] 1 rfl rfl (rowSp_one (Blk.new _ _ _)) (by omega) (by decide) ((hb.alloc (hb.size) _).size) ?_; intro A2 c2 w5 ho5 hg5 _)
        go_roundw
        case rel =>
          refine ⟨A2, c2, 1, j + 1, [⟨y1, y2, y3⟩], rfl, by go_num, by omega, by omega, Lib.hid ?_, Lib.hid rfl, ho5, below_grown (hb.alloc hb.size _) (ho.below ((Below.refl _ _).alloc (Nat.le_refl _) _)) ((hb.alloc hb.size _).size) hg5⟩
          have := hJ.out
          rw [HD.out] at this
          exact this
        case measure => simp [intOf]; omega
      · obtain ⟨p, hkp⟩ : ∃ p, k = p + 1 := ⟨k - 1, by omega⟩
        have hpk : p < k := by omega
        have hpi : ((k : Int) - 1) = (p : Int) := by omega
        obtain ⟨o, hop⟩ := get_some hK.out hpk
        have hzr : zs.reverse = o :: (zs.take p).reverse := by
          have h1 : zs = zs.take p ++ [o] := by
              rw [← take_snoc' hop, List.take_of_length_le (by rw [hK.out]; omega)]
          rw [List.reverse_eq_iff, List.reverse_cons, List.reverse_reverse]
          exact h1
        have hJ2 := hJ.out
        rw [hzr, HD.out, joinT] at hJ2
        obtain ⟨g, cur, e, hgl, hblk, hsz, h4, h5, h6⟩ := ho.blk (ho.some_ (by rw [hK.out]; omega))
        subst e
        have hcell := fun W (hW : Below wr.heap.size wr W) => ((ho.below hW).rows.get hop)
        clear hkp hk0
        obtain ⟨o1, o2, o3⟩ := o
        simp only at hJ2
        have HZ : NormSt ⟨o1, o2, o3⟩ ⟨y1, y2, y3⟩ zs ys p j xs := ⟨hJ2, hzr, hop⟩
        have H6 := Lib.hid h6
        rw [hK.out] at h4
        clear hzr hJ2 hop h6
        go_wp2_with fail
        replace hcell := fun W (hW : Below (wr.alloc (.cells #[.int .i64 y1, .int .i64 y2, .int .i64 y3] 83)).heap.size (wr.alloc (.cells #[.int .i64 y1, .int .i64 y2, .int .i64 y3] 83)) W) => hcell W (below_then hO1.below hW)
        replace ho := ho.below hO1.below
        replace hblk := hblk.below hO1.below hblk.lt
        replace hb := hb.trans (hO1.below.mono hb.size)
        generalize hge : (wr.alloc (.cells #[.int .i64 y1, .int .i64 y2, .int .i64 y3] 83)) = W0 at *
        have hq : ∀ W, Below W0.heap.size W0 W → W.cell? ⟨g, p * 3, none⟩ = some (.int .i64 o1) ∧ W.cell? ⟨g, p * 3 + 1, none⟩ = some (.int .i64 o2) ∧ W.cell? ⟨g, p * 3 + 2, none⟩ = some (.int .i64 o3) := by
          intro W hW
          obtain ⟨b, off, e, _, hc⟩ := hcell W hW
          simp only [Option.some.injEq, Addr.mk.injEq] at e
          obtain ⟨rfl, rfl, -⟩ := e
          have a0 := hc 0 (.int .i64 o1) rfl
          have a1 := hc 1 (.int .i64 o2) rfl
          have a2 := hc 2 (.int .i64 o3) rfl
          simp only [encSp, Nat.zero_add, Nat.add_zero] at a0 a1 a2
          exact ⟨a0, a1, a2⟩
        clear hge hcell kk0 kk1 kk2
        by_cases hj1 : o1 = y1
        · subst hj1
          by_cases hj2 : y2 ≤ o3
          · have f2 : decide (y2 ≤ o3) = true := by simpa using hj2
            apply wp_region_lex
            case hFl =>
              intro u
              simp only [List.map, fill, Act.put, List.setIfInBounds_toArray, List.set_cons_zero, List.set_cons_succ, Nat.reduceAdd, Nat.zero_add]
              with_reducible rfl
            case hm => kernel_rfl
            case hB => kernel_rfl
            case hap => kernel_rfl
            repeat (first
              | (apply Lex.is
                 · (intro u w' hk hd
                    simp [Waited, Region.binds, Is] at hd
                    refine looked_want ?_ ?_
                    · first
                      | rfl
                      | (simp [Region.wanted, yielded, hd]; done)
                    intro K hK
                    have hO2 := hO1.grow hk; have hcy := hO2.b0.cell; have m0 := (hq _ hk).1; have m1 := (hq _ hk).2.1; have m2 := (hq _ hk).2.2
                    go_wp2_with (fail)
                    try simp only [hd] at hK
                    refine hK _ _ ?_ rfl
                    first | exact Below.refl _ _ | exact hb3))
              | (refine Lex.is (c := undef) ?_ ?_
                 · (intro u w' hk hd
                    simp [Waited, Region.binds, Is] at hd
                    exact looked_skip (by simp [Region.wanted, yielded, hd]) rfl)))
            apply Lex.nil
            intro u w' hk hd
            simp only [List.nil_append, List.cons_append] at hd
            have hlast := hd 21 _ rfl
            simp only [Is] at hlast
            clear hd
            simp only [hlast]
            replace ho := ho.below hk
            replace hb := hb.trans (hk.mono hb.size)
            replace hO1 := hO1.grow hk
            have hcy := hO1.b0.cell
            replace hq := fun W (hW : Below w'.heap.size w' W) => hq W (below_then hk hW)
            replace hblk := hblk.below hk hblk.lt
            clear hk hlast hcy
            go_wp2_with fail
            apply wp_region_lextu (Below (w').heap.size) (fun W => below_drewN (Below.refl _ _) 1) (fun _ _ _ h1 h2 => h1.trans h2) (WaysB (w').heap.size 999) (fun _ _ _ h => h.1) (fun _ _ => waysB_same _ _ _ _) (fun _ _ => True) (fun _ => trivial) (fun _ _ _ _ _ _ _ => trivial)
            case hFl =>
              intro u
              simp only [List.map, fill, Act.put, List.setIfInBounds_toArray, List.set_cons_zero, List.set_cons_succ, Nat.reduceAdd, Nat.zero_add]
              with_reducible rfl
            case hm => kernel_rfl
            case hB => kernel_rfl
            case hA => kernel_rfl
            case hap => kernel_rfl
            repeat (first
              | (apply LexTU.is
                 · (intro u w' hk hpre hd
                    simp [WaitedU, Region.binds, Own1, Is] at hd
                    refine lookedT_want ?_ ?_
                    · first
                      | rfl
                      | (simp [Region.wanted, yielded, hd]; done)
                    intro K hK
                    have hO2 := hO1.grow hk; have hcy := hO2.b0.cell; have m2 := (hq _ hk).2.2
                    go_wp2_with (fail)
                    try simp only [hd] at hK
                    refine hK _ _ ?_ rfl
                    first | exact waysB_same _ _ _ _ | exact waysB_below hk.size hb3 (by decide)))
              | (refine LexTU.one (BoxB (w').heap.size 83 (#[.int .i64 0] : Array Value).size) ?_ ?_
                 · (intro u w' hk hpre hd
                    clear hd
                    refine lookedT_want ?_ ?_
                    · first
                      | rfl
                      | (simp [Region.wanted, yielded]; done)
                    intro K hK
                    go_wp2_with fail
                    exact hK _ _ (waysB_below hk.size ((Below.refl _ _).alloc (Nat.le_refl _) _) (by decide)) ⟨w'.heap.size, _, rfl, hk.size, Blk.new w' 83 (#[.int .i64 0] : Array Value), rfl⟩))
              | (refine LexTU.word (FullB (w').heap.size 999 83 (#[.int .i64 0])) ?_ ?_
                 · (intro u w' hk hpre hd
                    simp [WaitedU, Region.binds, Own1, Is] at hd
                    obtain ⟨⟨g, cs, hpg, hg, hbk, hsz⟩, hx⟩ := hd
                    refine lookedU_want ?_ ?_
                    · first
                      | rfl
                      | (simp [Region.wanted, yielded]; done)
                    intro K hK
                    have hfar : ∀ k, k ≠ g → (w'.setRow g (#[.int .i64 0])).heap[k]? = w'.heap[k]? := fun k hk => setRow_other w' g k _ hk
                    exact wp_store_row 83 _ _ rfl g (#[.int .i64 0]) (by first | exact hpg | (rw [← hpg]; rfl)) (by first | exact hx | exact hx.1 | (rw [← hx.1]; rfl) | (rw [← hx]; rfl)) 83 cs hbk (by kernel_rfl) hsz (by first | (simp [Value.oneCell']; done) | exact trC_ones _ _) (hK undef _
                      ⟨below_row (Below.refl _ _) hg _, fun h => absurd rfl h, fun _ => .inr ⟨g, _, cs, (#[.int .i64 0]), hbk, hbk.row _, hsz.symm, by simp, hfar⟩⟩
                      ⟨g, by rw [upd_other u undef (by decide)]; exact hpg, hg, hbk.row _⟩))))
            refine LexTU.last (stB_last ?_) ?_
            · simp only [List.nil_append, List.cons_append]
              repeat (refine ⟨?_, ?_⟩; · first | exact stableB_is _ | exact stableB_box | exact stableB_full (fun i hf e => hf _ rfl ⟨999, .data⟩ (by simp) rfl e.symm))
              exact trivial
            intro u w2 hk2 _ hd
            simp only [List.nil_append, List.cons_append] at hd
            refine ⟨rfl, ?_⟩
            intro K hK
            have h11 := hd 11 _ rfl
            have h9 := hd 9 _ rfl
            simp only [Own1, Is] at h11 h9
            clear hd
            have m2 := (hq _ hk2).2.2
            have hbk2 := hblk.below hk2 hblk.lt
            have hfz := hbk2.frozen (p * 3 + 2)
            simp only [h11, h9]
            clear h11 h9
            go_wp2_with fail
            go_roundw
            case rel =>
              have hs := setCells_heap g [.int .i64 (max o3 y3)] (p * 3 + 2) w2
              have hgr : w2.grownBy (w2.setCells g (p * 3 + 2) [.int .i64 (max o3 y3)]) (some g) := ⟨hs.2.2.1, hs.2.2.2.1, hs.2.2.2.2, Nat.le_of_eq hs.1.symm, fun i _ hne => hs.2.1 i (fun e => hne (by rw [e]))⟩
              have ho2 := ho.below hk2
              have hb2 : Below w3.heap.size w3 w2 := hb.trans (hk2.mono hb.size)
              have a0 := (hbk2.cell (p * 3)).symm.trans (hq _ hk2).1
              have a1 := (hbk2.cell (p * 3 + 1)).symm.trans (hq _ hk2).2.1
              have hput : Blk (w2.setCells g (p * 3 + 2) [.int .i64 (max o3 y3)]) g 83 (putAt cur (p * encSp.k) (encSp.enc ⟨o1, o2, max o3 y3⟩)) := by
                have e : putAt cur (p * encSp.k) (encSp.enc ⟨o1, o2, max o3 y3⟩) = cur.setIfInBounds (p * 3 + 2) (.int .i64 (max o3 y3)) := by
                  show ((cur.setIfInBounds (p * 3) (.int .i64 o1)).setIfInBounds (p * 3 + 1) (.int .i64 o2)).setIfInBounds (p * 3 + 2) (.int .i64 (max o3 y3)) = _
                  rw [set_same a0, set_same a1]
                rw [e]
                exact hbk2.set_ _ _
              refine ⟨some ⟨g, 0, none⟩, c1, k, j + 1, zs.set p ⟨o1, o2, max o3 y3⟩, rfl, by go_num, by omega, by omega, Lib.hid ?_, Lib.hid (by rw [List.length_set, hK.out]), OwnRows.put ho2 (by rw [hK.out]; omega) _ hbk2 hput, below_grown hb2 ho2 hb2.size hgr⟩
              have h1 := HZ.1
              rw [if_pos ⟨rfl, hj2⟩] at h1
              rw [set_last HZ.2.1 (by rw [hK.out]; omega)]
              exact h1
            case measure => simp [intOf]; omega
          · have f2 : decide (y2 ≤ o3) = false := by simpa using hj2
            clear hj2
            apply wp_region_lex
            case hFl =>
              intro u
              simp only [List.map, fill, Act.put, List.setIfInBounds_toArray, List.set_cons_zero, List.set_cons_succ, Nat.reduceAdd, Nat.zero_add]
              with_reducible rfl
            case hm => kernel_rfl
            case hB => kernel_rfl
            case hap => kernel_rfl
            repeat (first
              | (apply Lex.is
                 · (intro u w' hk hd
                    simp [Waited, Region.binds, Is] at hd
                    refine looked_want ?_ ?_
                    · first
                      | rfl
                      | (simp [Region.wanted, yielded, hd]; done)
                    intro K hK
                    have hO2 := hO1.grow hk; have hcy := hO2.b0.cell; have m0 := (hq _ hk).1; have m1 := (hq _ hk).2.1; have m2 := (hq _ hk).2.2
                    go_wp2_with (fail)
                    try simp only [hd] at hK
                    refine hK _ _ ?_ rfl
                    first | exact Below.refl _ _ | exact hb3))
              | (refine Lex.is (c := undef) ?_ ?_
                 · (intro u w' hk hd
                    simp [Waited, Region.binds, Is] at hd
                    exact looked_skip (by simp [Region.wanted, yielded, hd]) rfl)))
            apply Lex.nil
            intro u w' hk hd
            simp only [List.nil_append, List.cons_append] at hd
            have hlast := hd 21 _ rfl
            simp only [Is] at hlast
            clear hd
            simp only [hlast]
            replace ho := ho.below hk
            replace hb := hb.trans (hk.mono hb.size)
            replace hO1 := hO1.grow hk
            have hcy := hO1.b0.cell
            clear hk hlast
            clear hq hsz hpi hgl h4 h5 hpk hblk H6
            go_wp2_with (at_builtin; refine wpList_app_rows rowSp rfl _ _ rfl w3.heap.size (some ⟨g, 0, none⟩) c1 zs k rfl hK.out (ho.below ((Below.refl _ _).alloc (Nat.le_refl _) _)) (some ⟨w'.heap.size, 0, none⟩) 1 [⟨o1, y2, y3⟩] 1 rfl rfl (rowSp_one (Blk.new _ _ _)) (by omega) (by decide) ((hb.alloc (hb.size) _).size) ?_; intro A2 c2 w5 ho5 hg5 _)
            go_roundw
            case rel =>
              refine ⟨A2, c2, k + 1, j + 1, zs ++ [⟨o1, y2, y3⟩], by go_num, by go_num, by omega, by omega, Lib.hid ?_, Lib.hid (by rw [List.length_append, hK.out]; rfl), ho5, below_grown (hb.alloc hb.size _) (ho.below ((Below.refl _ _).alloc (Nat.le_refl _) _)) ((hb.alloc hb.size _).size) hg5⟩
              have h1 := HZ.1
              have hj2 := of_decide_eq_false f2
              rw [if_neg (by simp only; omega)] at h1
              rw [List.reverse_append, HZ.2.1]
              exact h1
            case measure => simp [intOf]; omega
        · have f1 : (o1 == y1) = false := by simpa using hj1
          apply wp_region_lex
          case hFl =>
            intro u
            simp only [List.map, fill, Act.put, List.setIfInBounds_toArray, List.set_cons_zero, List.set_cons_succ, Nat.reduceAdd, Nat.zero_add]
            with_reducible rfl
          case hm => kernel_rfl
          case hB => kernel_rfl
          case hap => kernel_rfl
          repeat (first
            | (apply Lex.is
               · (intro u w' hk hd
                  simp [Waited, Region.binds, Is] at hd
                  refine looked_want ?_ ?_
                  · first
                    | rfl
                    | (simp [Region.wanted, yielded, hd]; done)
                  intro K hK
                  have hO2 := hO1.grow hk; have hcy := hO2.b0.cell; have m0 := (hq _ hk).1; have m1 := (hq _ hk).2.1; have m2 := (hq _ hk).2.2
                  go_wp2_with (fail)
                  try simp only [hd] at hK
                  refine hK _ _ ?_ rfl
                  first | exact Below.refl _ _ | exact hb3))
            | (refine Lex.is (c := undef) ?_ ?_
               · (intro u w' hk hd
                  simp [Waited, Region.binds, Is] at hd
                  exact looked_skip (by simp [Region.wanted, yielded, hd]) rfl)))
          apply Lex.nil
          intro u w' hk hd
          simp only [List.nil_append, List.cons_append] at hd
          have hlast := hd 21 _ rfl
          simp only [Is] at hlast
          clear hd
          simp only [hlast]
          replace ho := ho.below hk
          replace hb := hb.trans (hk.mono hb.size)
          replace hO1 := hO1.grow hk
          have hcy := hO1.b0.cell
          clear hk hlast
          clear hq hsz hpi hgl h4 h5 hpk hblk H6
          go_wp2_with (at_builtin; refine wpList_app_rows rowSp rfl _ _ rfl w3.heap.size (some ⟨g, 0, none⟩) c1 zs k rfl hK.out (ho.below ((Below.refl _ _).alloc (Nat.le_refl _) _)) (some ⟨w'.heap.size, 0, none⟩) 1 [⟨y1, y2, y3⟩] 1 rfl rfl (rowSp_one (Blk.new _ _ _)) (by omega) (by decide) ((hb.alloc (hb.size) _).size) ?_; intro A2 c2 w5 ho5 hg5 _)
          go_roundw
          case rel =>
            refine ⟨A2, c2, k + 1, j + 1, zs ++ [⟨y1, y2, y3⟩], by go_num, by go_num, by omega, by omega, Lib.hid ?_, Lib.hid (by rw [List.length_append, hK.out]; rfl), ho5, below_grown (hb.alloc hb.size _) (ho.below ((Below.refl _ _).alloc (Nat.le_refl _) _)) ((hb.alloc hb.size _).size) hg5⟩
            have h1 := HZ.1
            rw [if_neg (by simp only; omega)] at h1
            rw [List.reverse_append, HZ.2.1]
            exact h1
          case measure => simp [intOf]; omega
    · obtain rfl : j = m := by omega
      have hz : zs = normT xs := by
        have := hJ.out
        rw [List.drop_of_length_le (by rw [HR.out.2]; exact Nat.le_refl _), joinT.eq_def] at this
        simpa using this
      have hk2 := hK.out
      clear hJ
      go_wp2_with fail
      go_ret
      subst hz
      exact ⟨A1, c1, by rw [hk2]; rfl, ho.base hB0, hb3.trans (hb.mono hB0)⟩
end Go.Proofs.YtpjdcpicfkdioaaGreatDoor
/- span.Total. -/
set_option linter.unusedSimpArgs false
set_option linter.unusedVariables false
namespace Go.Proofs.YtpjdcpicfkdioaaGreatDoor
open Go.RowKit Go.Shelf Go.Sort

theorem join_all {P : Sp → Prop} (hP : ∀ o s, P o → P s → P ⟨o.edge, o.lo, max o.hi s.hi⟩) : ∀ (l out : List Sp), (∀ s ∈ out, P s) → (∀ s ∈ l, P s) → ∀ s ∈ joinT out l, P s
  | [], out, ho, _ => by
    rw [joinT.eq_def]
    exact ho
  | s :: l, [], _, hl => by
    rw [joinT]
    exact join_all hP l [s] (by intro x hx; rw [List.mem_singleton] at hx; subst hx; exact hl _ (by simp)) (fun x hx => hl x (List.mem_cons_of_mem _ hx))
  | s :: l, o :: out, ho, hl => by
    rw [joinT]
    have h1 := ho o (by simp)
    have h2 := hl s (by simp)
    split
    · refine join_all hP l _ ?_ (fun x hx => hl x (List.mem_cons_of_mem _ hx))
      intro x hx
      rcases List.mem_cons.1 hx with rfl | hx
      · exact hP _ _ h1 h2
      · exact ho x (List.mem_cons_of_mem _ hx)
    · refine join_all hP l _ ?_ (fun x hx => hl x (List.mem_cons_of_mem _ hx))
      intro x hx
      rcases List.mem_cons.1 hx with rfl | hx
      · exact h2
      · exact ho x hx
theorem join_len : ∀ (l out : List Sp), (joinT out l).length ≤ out.length + l.length
  | [], out => by
    rw [joinT.eq_def]
    simp
  | s :: l, [] => by
    rw [joinT]
    have := join_len l [s]
    simp at this ⊢
    omega
  | s :: l, o :: out => by
    rw [joinT]
    split
    · have := join_len l (⟨o.edge, o.lo, max o.hi s.hi⟩ :: out)
      simp at this ⊢
      omega
    · have := join_len l (s :: o :: out)
      simp at this ⊢
      omega
theorem norm_small (l : List Sp) : ∀ s ∈ normT l, 0 ≤ s.lo ∧ s.lo ≤ s.hi ∧ s.hi ≤ 1000000 := by
  intro s hs
  unfold normT at hs
  rw [List.mem_reverse] at hs
  refine join_all (P := fun s => 0 ≤ s.lo ∧ s.lo ≤ s.hi ∧ s.hi ≤ 1000000) ?_ _ [] (by simp) ?_ s hs
  · intro o s h1 h2
    exact ⟨h1.1, by simp only; omega, by simp only; omega⟩
  · intro x hx
    have hx := (foldSp_perm _).mem_iff.1 hx
    have := (List.mem_filter.1 hx).2
    simp [someT] at this
    omega
theorem norm_len (l : List Sp) : (normT l).length ≤ l.length := by
  unfold normT
  rw [List.length_reverse]
  refine Nat.le_trans (join_len _ []) ?_
  rw [(foldSp_perm _).length_eq]
  simpa using List.length_filter_le _ _
theorem sumSp_snoc {l : List Sp} {j : Nat} {s : Sp} (h : l[j]? = some s) : sumSp (l.take (j + 1)) = sumSp (l.take j) + (s.hi - s.lo) := by
  rw [take_snoc' h]
  simp [sumSp]
theorem sumSp_le : ∀ l : List Sp, (∀ s ∈ l, 0 ≤ s.lo ∧ s.lo ≤ s.hi ∧ s.hi ≤ 1000000) → 0 ≤ sumSp l ∧ sumSp l ≤ 1000000 * l.length
  | [], _ => by simp [sumSp]
  | s :: l, h => by
    have h1 := h s (by simp)
    have h2 := sumSp_le l (fun x hx => h x (List.mem_cons_of_mem _ hx))
    simp [sumSp] at h2 ⊢
    omega
set_option maxRecDepth 8000 in
set_option maxHeartbeats 4000000 in
theorem total_k (A : Option Addr) (n c : Nat) (xs : List Sp) (w : World) (hr : RowsAt encSp w A xs) (hn : xs.length = n) (hl : n ≤ 1000) : Calls Tryz.prog 9 #[.slice A n c] w fun e w' => e = .returned (.int .i64 (totalT xs)) ∧ Below w.heap.size w w' := by
  have hno := norm_k A n c xs w hr hn hl
  have hT : totalT xs = sumSp (normT xs) := rfl
  have hsm := norm_small xs
  have hnl := norm_len xs
  rw [hn] at hnl
  generalize totalT xs = tot at *
  generalize normT xs = zs at *
  obtain ⟨m, hm⟩ : ∃ m, m = zs.length := ⟨_, rfl⟩
  rw [← hm] at hno hnl
  have HM := Lib.hid hm.symm
  have HT := Lib.hid hT
  have HS := Lib.hid hsm
  clear hr hn hsm hT hm
  go_enter Tryz.func9, Tryz.ntmps9
  go_wp2_with (first
    | (go_at_call 28; (with_reducible refine hno.mono ?_); rintro e w1 ⟨A0, c0, rfl, ho1, hb1⟩))
  have hys := ho1.rows
  clear hno ho1
  go_loopw [3, 9] (fun s i wr => ∃ j : Nat, i = .int .i64 j ∧ j ≤ m ∧ s = .int .i64 (sumSp (zs.take j)) ∧ Below w1.heap.size w1 wr) (fun _ i _ => m - (intOf i).toNat)
  case atStart => exact ⟨0, rfl, by omega, rfl, Below.refl _ _⟩
  case round =>
    obtain ⟨j, rfl, hj, rfl, hb⟩ := hrel
    have hyr := hys.below hb
    by_cases hlt : j < m
    · obtain ⟨y, hy⟩ := get_some HM.out hlt
      obtain ⟨b0, off0, rfl, hbl, hc⟩ := hyr.get hy
      have kk0 := hc 0 (.int .i64 y.edge) rfl
      have kk1 := hc 1 (.int .i64 y.lo) rfl
      have kk2 := hc 2 (.int .i64 y.hi) rfl
      simp only [encSp, Nat.zero_add, Nat.add_zero] at kk0 kk1 kk2
      have hO1 : Own wr _ [_] := (Own.nil wr).alloc 83 #[.int .i64 y.edge, .int .i64 y.lo, .int .i64 y.hi] _ rfl
      have hy1 := HS.out y (List.mem_of_getElem? hy)
      have hsn := Lib.hid (sumSp_snoc hy)
      have hle := sumSp_le (zs.take j) (fun s hs => HS.out s (List.mem_of_mem_take hs))
      have hlj : (zs.take j).length ≤ 1000 := by rw [List.length_take]; omega
      have hs0 : 0 ≤ sumSp (zs.take j) ∧ sumSp (zs.take j) ≤ 1000000000 := by omega
      clear hc hy hyr hle hlj
      obtain ⟨y1, y2, y3⟩ := y
      simp only at kk0 kk1 kk2 hO1 hy1
      generalize sumSp (zs.take j) = sm at *
      go_wp2_with fail
      go_roundw
      case rel =>
        refine ⟨j + 1, by go_num, by omega, ?_, hb.trans (hO1.below.mono hb.size)⟩
        rw [hsn.out]
      case measure => simp [intOf]; omega
    · obtain rfl : j = m := by omega
      go_wp2_with fail
      go_ret
      rw [List.take_of_length_le (by rw [HM.out]; exact Nat.le_refl _), ← HT.out]
      exact ⟨rfl, hb1.trans (hb.mono hb1.size)⟩
end Go.Proofs.YtpjdcpicfkdioaaGreatDoor
