/- The document's Acked. -/
import Derived.Test.YtiloammjejggjaaLinkRefActs
import Derived.Test.YtiloammjejggjaaLinkSent
import Derived.Test.YtiloammjejggjaaLinkScan
set_option linter.unusedSimpArgs false
set_option linter.unusedVariables false
namespace Go.Proofs.Ytiloammjejggjaa
open Go.RowKit

/-- How an operation of a region that appends may turn the world: the one numbered s makes the row longer. -/
def WaysR (R : Option Nat) (s i : Nat) (w w' : World) : Prop := (i ≠ s → Below w.heap.size w w') ∧ w.grownBy w' R
theorem waysR_same (R : Option Nat) (s i : Nat) (w : World) : WaysR R s i w w := ⟨fun _ => Below.refl _ _, World.grownBy.refl w R⟩
theorem waysR_below {R : Option Nat} {s i : Nat} {w w' : World} (h : Below w.heap.size w w') : WaysR R s i w w' := ⟨fun _ => h, grown_of_below h R⟩
/-- A new row of one message with these cells. -/
def MsgX (R : Option Nat) (cs : Array Value) : Value → World → Prop := fun v w => ∃ bv, v = .slice (some ⟨bv, 0, none⟩) 1 1 ∧ Blk w bv 35 cs ∧ R ≠ some bv
theorem MsgX.grownO {R : Option Nat} {cs : Array Value} {v : Value} {w w' : World} (h : MsgX R cs v w) (hg : w.grownBy w' R) : MsgX R cs v w' := by
  obtain ⟨bv, e, hB, hn⟩ := h
  exact ⟨bv, e, hB.grown hg (fun e => hn e.symm), hn⟩
def RowX (base m : Nat) (zs : List (Wt × Value)) : Value → World → Prop := fun v w => ∃ A c, v = .slice A m c ∧ OwnW w base A c zs
theorem RowX.grow {base m : Nat} {zs : List (Wt × Value)} {v : Value} {w w' : World} (h : RowX base m zs v w) (hb : Below w.heap.size w w') : RowX base m zs v w' := by
  obtain ⟨A, c, e, hO⟩ := h
  exact ⟨A, c, e, hO.below hb⟩
theorem wp_app_waits {w : World} {o : Oper} {a : Act} {K : Act → World → Prop} {Q : Exit → Act → World → Prop} (s x : Operand)
    (ho : o.op = .call { callee := .builtin .append, args := #[s, x], argTypes := #[23, 23] })
    (base : Nat) (A1 : Option Addr) (c1 : Nat) (xs : List (Wt × Value)) (n1 : Nat) (hs : a.eval s = .slice A1 n1 c1) (hn1 : n1 = xs.length) (hown : OwnW w base A1 c1 xs)
    (x0 : Wt) (v0 : Value) (hv0 : v0.oneCell' = true) (R : Option Nat) (v : Value) (hx : a.eval x = v) (hm : MsgX R #[.int .i64 x0.t, .int .i64 x0.due, .int .i64 x0.tries, v0] v w) (hlen : n1 ≤ 60000) (hbase : base ≤ w.heap.size)
    (h : ∀ z W, RowX base (n1 + 1) (xs ++ [(x0, v0)]) z W → w.grownBy W (rowOf A1) → K (a.put o.dst z) W) : o.wp Try.prog a w K Q := by
  subst hn1
  obtain ⟨i0, hi0, hz0, hz1, hz2⟩ := info_parts info_wait
  obtain ⟨bv, rfl, hB, _⟩ := hm
  have hrd : Reads w w.heap.size 4 (some ⟨bv, 0, none⟩) 1 (flat [(x0, v0)]) := ⟨rfl, fun _ => ⟨⟨bv, 0, none⟩, rfl, hB.lt, fun j u hu => by
    rw [show (⟨bv, 0, none⟩ : Addr).add j = ⟨bv, 0 + j, none⟩ by unfold Addr.add; split <;> simp_all, Nat.zero_add, hB.cell]
    have e : flat [(x0, v0)] = [.int .i64 x0.t, .int .i64 x0.due, .int .i64 x0.tries, v0] := rfl
    rw [e] at hu
    simpa using hu⟩⟩
  refine wp_append_any w s x 23 ho base 35 i0 _ 4 48 Try.underlying23 hi0 hz0 hz1 hz2 rfl (by omega) _ _ _ hs hown w.heap.size (some ⟨bv, 0, none⟩) 1 1 (flat [(x0, v0)]) hx hrd (flat_one _ fun p hp => by simp at hp; subst hp; exact hv0) (by simp only [maxLen]; omega) (by omega) hbase ?_
  intro v' W h1 h2 h3
  rw [ownBlock_slice] at h2
  have h4 : ∃ A2 c2, v' = .slice A2 (xs.length + 1) c2 := by
    rcases h1.2 with ⟨e, h0⟩ | ⟨g, cap, _, e, _⟩
    · omega
    · exact ⟨_, _, e⟩
  obtain ⟨A2, c2, rfl⟩ := h4
  refine h _ W ⟨A2, c2, rfl, ?_⟩ h2
  unfold OwnW
  rw [List.length_append, flat_append]
  exact h1
theorem OwnW.far {w w' : World} {base c : Nat} {A : Option Addr} {xs : List (Wt × Value)} (h : OwnW w base A c xs) {g : Nat} (hlt : g < base) (hk : ∀ k, k ≠ g → w'.heap[k]? = w.heap[k]?) : OwnW w' base A c xs := by
  refine ⟨h.1, ?_⟩
  rcases h.2 with h' | ⟨k, cap, cur, e, h1, h2, h3⟩
  · exact .inl h'
  · exact .inr ⟨k, cap, cur, e, h1, (hk k (by omega)).trans h2, h3⟩
theorem Own.cell2 {w W : World} {L : List Bk} {x0 x1 : Bk} {g : Nat} {t : TypeId} {cs : Array Value} (h : Own w W (x0 :: x1 :: (g, t, cs) :: L)) (i : Nat) (v : Value) : Own w (W.setCell ⟨g, i, none⟩ v) (x0 :: x1 :: (g, t, cs.setIfInBounds i v) :: L) :=
  Own.with (L1 := [x0, x1]) h (h.below.setCell (p := ⟨g, i, none⟩) (Own.lo (L1 := [x0, x1]) h) v) (h.b2.set_ i v) (fun k hk => Below.heap_setCell W ⟨g, i, none⟩ v k hk)
theorem ackW_succ {ws : List Wt} {t : Int} {k : Nat} {x : Wt} (h : ws[k]? = some x) : (ws.take (k + 1)).filter (fun x => decide (x.t ≠ t)) = (ws.take k).filter (fun x => decide (x.t ≠ t)) ++ (if x.t ≠ t then [x] else []) := by
  obtain ⟨hl, rfl⟩ := List.getElem?_eq_some_iff.1 h
  rw [List.take_succ_eq_append_getElem hl, List.filter_append]
  by_cases hx : ws[k].t = t <;> simp [hx]
set_option maxRecDepth 100000 in
set_option maxHeartbeats 8000000 in
theorem rlacked_ok (l : Lk) (A : Option Addr) (n c : Nat) (xs : List (Wt × Value)) (t : Int) (w : World) (hx : xs.map (·.1) = l.waits) (hn : l.waits.length = n) (hW : WaitsAt w A xs) (hc : n ≤ 9223372036854775807) (hm : mayL l = true) (hf : findB l.waits t = true) :
    Calls Try.prog 18 #[.agg #[.int .i64 l.period, .int .i64 l.most, .int .i64 l.quiet, .int .i64 l.heard, .slice A n c], .int .i64 t] w (RetR ⟨l.period, l.most, l.quiet, l.heard, delW l.waits t⟩ 0 w) := by
  have hmay := fun W (h : WaitsAt W A xs) => rlmay_k l A n c xs W hx hn h hc
  have hpl := fun W (h : WaitsAt W A xs) => rlplace_k l A n c xs t W hx hn h hc
  have hO : Own w _ [_, _] := Own.start2 w 25 25 #[.int .i64 l.period, .int .i64 l.most, .int .i64 l.quiet, .int .i64 l.heard, .slice A n c] #[.int .i64 0, .int .i64 0, .int .i64 0, .int .i64 0, .slice none 0 0]
  have hcl := hO.b0.cell
  have hp0 := placeI_pos hf
  have hn8 := (mayL_head hm).2.2.2.2.2.2.2
  rw [hn] at hn8
  have hdel := filter_delW (mayL_sorted hm).2 hf
  rw [← hdel]
  rw [hm] at hmay
  clear hm hf hdel
  generalize placeI l.waits t = pl at *
  have hpd : decide (pl < 0) = false := by simp; omega
  clear hp0
  obtain ⟨ws, hws⟩ : ∃ ws, ws = l.waits := ⟨_, rfl⟩
  rw [← hws] at hx hn ⊢
  clear hws
  generalize l.period = x1 at *
  generalize l.most = x2 at *
  generalize l.quiet = x3 at *
  generalize l.heard = x4 at *
  have HN := Lib.hid hn
  have HX := Lib.hid hx
  clear hn hx
  have hW0 := hW
  go_enter Try.func18, Try.ntmps18
  go_wp2_with (first
    | ((with_reducible refine own_loadg0 hO ?_ _ rfl rfl _ Try.underlying25 rfl (by kernel_rfl) ?_); (· first | rfl | (simp [Region.wanted, yielded]; done)))
    | (go_at_call 23; (with_reducible refine (hmay _ (hW.below hO.below)).mono ?_); rintro e w1 ⟨rfl, hb1⟩; replace hO := hO.grow hb1; clear hcl)
    | (go_at_call 36; (with_reducible refine (hpl _ (hW.below hO.below)).mono ?_); rintro e w2 ⟨rfl, hb2⟩; have hOp := hO.grow hb2; have hg7 := hOp.b1.lt; replace hO := hOp.new2 25 #[.int .i64 0, .int .i64 0, .int .i64 0, .int .i64 0, .slice none 0 0])
    | ((with_reducible refine own_loadg0 hOp ?_ _ rfl rfl _ Try.underlying25 rfl (by kernel_rfl) ?_); (· first | rfl | (simp [Region.wanted, yielded]; done)); clear hOp)
    | ((with_reducible refine own_row2 #[.int .i64 x1, .int .i64 x2, .int .i64 x3, .int .i64 x4, .slice A n c] hO rfl _ _ rfl rfl rfl (by kernel_rfl) rfl ?_ ?_); (· (simp [Value.oneCell']; done)); intro wR hOR hszR hkR; replace hO := hOR; clear hOR hszR hkR; have hcl2 := hO.b2.cell)
    | ((with_reducible refine own_cell2 4 (.slice none 0 0) hO rfl 23 _ _ rfl rfl rfl (by kernel_rfl) ?_ rfl ?_); (· (simp; done)); intro wR hOR hszR hkR; replace hO := hOR; clear hOR hszR hkR hcl2))
  clear hpl hmay hpd
  rename World => wS
  generalize w2.heap.size = g7 at *
  replace hW := hW0
  clear hb2
  go_loopw [8] (fun i wr => ∃ (k m : Nat) (A3 : Option Addr) (c3 : Nat) (zs : List (Wt × Value)), k ≤ n ∧ m ≤ k ∧ i = .int .i64 k ∧ zs.length = m ∧ zs.map (·.1) = (ws.take k).filter (fun x => decide (x.t ≠ t)) ∧ OwnW wr (g7 + 1) A3 c3 zs ∧ (∀ p ∈ zs, IsBytes p.1.body p.2 w) ∧ Own w wr [(w.heap.size, 25, #[.int .i64 x1, .int .i64 x2, .int .i64 x3, .int .i64 x4, .slice A n c]), (w.heap.size + 1, 25, #[.int .i64 0, .int .i64 0, .int .i64 0, .int .i64 0, .slice none 0 0]), (g7, 25, #[.int .i64 x1, .int .i64 x2, .int .i64 x3, .int .i64 x4, .slice A3 m c3])]) (fun i _ => n - (intOf i).toNat)
  case atStart => exact ⟨0, 0, none, 0, [], Nat.zero_le _, Nat.le_refl _, rfl, rfl, rfl, OwnW.nil _ _, fun p hp => absurd hp List.not_mem_nil, hO⟩
  case round =>
    clear hO
    obtain ⟨k, m, A3, c3, zs, hk, hmk, rfl, hzl, hzs, hOw, hbd, hO⟩ := hrel
    have HZ := Lib.hid hzs
    have HZL := Lib.hid hzl
    clear hzs hzl
    have hcl := hO.b0.cell
    have hcl2 := hO.b2.cell
    by_cases hlt : k < n
    · obtain ⟨x, Ab, cb, b, off, hwk, hxk, rfl, hbl, hc0, hc1, hc2, hc3, hB⟩ := hW.get (k := k) HX.out (by have h1 := HN.out; omega)
      have hc0r := (hO.below.cell (p := ⟨b, off + k * 4, none⟩) hbl).trans hc0
      have hbx := hW.body _ (List.mem_of_getElem? hxk)
      have HBX := Lib.hid hbx
      have HS := Lib.hid (ackW_succ (t := t) hwk)
      clear hwk hxk hbx hB
      by_cases hxt : x.t = t
      · have hd2 : decide (x.t = t) = true := decide_eq_true hxt
        have hd3 : (x.t == t) = true := by simpa using hxt
        have HS2 := Lib.hid (HS.out.trans (by rw [if_neg (by simpa using hxt)]))
        clear hxt
        go_wp2_with fail
        go_roundw
        case rel => exact ⟨k + 1, m, A3, c3, zs, by omega, by omega, by go_num, HZL.out, by rw [HS2.out, List.append_nil]; exact HZ.out, hOw, hbd, hO⟩
        case measure => simp [intOf]; omega
      · have hd2 : decide (x.t = t) = false := decide_eq_false hxt
        have hd3 : (x.t == t) = false := by simpa using hxt
        have HS2 := Lib.hid (HS.out.trans (by rw [if_pos (by simpa using hxt)]))
        clear hxt
        go_wp2_with fail
        have hRx : ∀ g, rowOf A3 = some g → w.heap.size ≤ g ∧ ∀ y ∈ [((w.heap.size, 25, #[.int .i64 x1, .int .i64 x2, .int .i64 x3, .int .i64 x4, .slice (some ⟨b, off, none⟩) n c]) : Bk), (w.heap.size + 1, 25, #[.int .i64 0, .int .i64 0, .int .i64 0, .int .i64 0, .slice none 0 0]), (g7, 25, #[.int .i64 x1, .int .i64 x2, .int .i64 x3, .int .i64 x4, .slice A3 m c3])], y.1 ≠ g := fun g hg => by
          have := (hOw.row_ge g hg).1
          exact ⟨by omega, fun y hy => by simp at hy; rcases hy with rfl | rfl | rfl <;> simp <;> omega⟩
        apply wp_region_lextl (fun w w' => w.grownBy w' (rowOf A3)) (fun w => grown_of_below (below_drewN (Below.refl _ _) 1) _) (fun _ _ _ => grownBy_trans) (WaysR (rowOf A3) 8) (fun _ _ _ h => h.2) (fun i W => i = 8 → OwnW W (g7 + 1) A3 c3 zs) (fun _ _ => hOw.below (below_drewN (Below.refl _ _) 1)) (fun i j W W' hij hp ht hi => (hp hi).below (ht.1 (fun h => hij (hi.trans h.symm))))
        case hFl =>
          intro u
          simp only [List.map, fill, Act.put, List.setIfInBounds_toArray, List.set_cons_zero, List.set_cons_succ, Nat.reduceAdd, Nat.zero_add]
          rfl
        case hm => kernel_rfl
        case hB => kernel_rfl
        case hA => kernel_rfl
        case hap => kernel_rfl
        iterate 6 (
          apply LexTL.is
          · (intro u w' hk hpre hd
             simp [Waited, Region.binds, Is] at hd
             refine lookedT_want (by first | rfl | simp [Region.wanted, yielded, hd]) ?_
             intro K hK
             have hO' := hO.grownBy hk hRx; have hcl := hO'.b0.cell; have hcl2 := hO'.b2.cell
             go_wp2_with fail
             try simp only [hd] at hK
             refine hK _ _ ?_ rfl
             exact waysR_same _ _ _ _)
          )
        apply LexTL.is
        · (intro u w' hk hpre hd
           simp [Waited, Region.binds, Is] at hd
           refine lookedT_want (by first | rfl | simp [Region.wanted, yielded, hd]) ?_
           intro K hK
           have hO' := (hO.grownBy hk hRx).below; have hc0' := (hO'.cell (p := ⟨b, off + k * 4, none⟩) hbl).trans hc0; have hc1' := (hO'.cell (p := ⟨b, off + k * 4 + 1, none⟩) hbl).trans hc1; have hc2' := (hO'.cell (p := ⟨b, off + k * 4 + 2, none⟩) hbl).trans hc2; have hc3' := (hO'.cell (p := ⟨b, off + k * 4 + 3, none⟩) hbl).trans hc3
           go_wp2_with fail
           try simp only [hd] at hK
           refine hK _ _ ?_ rfl
           exact waysR_same _ _ _ _)
        refine LexTL.word (MsgX (rowOf A3) #[.int .i64 x.t, .int .i64 x.due, .int .i64 x.tries, .slice Ab x.body.length cb]) ?_ ?_
        · (intro u w' hk hpre hd
           simp [Waited, Region.binds, Is] at hd
           refine lookedT_want (by first | rfl | simp [Region.wanted, yielded]) ?_
           intro K hK
           go_wp2_with fail
           try simp only [hd] at hK
           exact hK _ _ (waysR_below ((Below.refl _ _).alloc (Nat.le_refl _) _)) ⟨w'.heap.size, rfl, Blk.new _ _ _, fun e => by have := (hOw.row_ge _ e).2; have := hk.size; omega⟩)
        refine LexTL.word (RowX (g7 + 1) (m + 1) (zs ++ [(x, .slice Ab x.body.length cb)])) ?_ ?_
        · (intro u w' hk hpre hd
           simp [Waited, Region.binds, Is] at hd
           obtain ⟨q1, hx⟩ := hd
           refine lookedT_want (by first | rfl | simp [Region.wanted, yielded]) ?_
           intro K hK
           exact wp_app_waits (.tmp 37) (.tmp 43) rfl (g7 + 1) A3 c3 zs m (by rw [← q1]; rfl) HZL.out.symm (hpre rfl) x (.slice Ab x.body.length cb) rfl (rowOf A3) _ rfl hx (by omega) (Nat.le_trans (hO.b2.lt) hk.size) fun z W hz hg => hK _ _ ⟨fun h => absurd rfl h, hg⟩ hz)
        apply LexTL.is
        · (intro u w' hk hpre hd
           simp [Waited, Region.binds, Is] at hd
           refine lookedT_want (by first | rfl | simp [Region.wanted, yielded, hd]) ?_
           intro K hK
           skip
           go_wp2_with fail
           try simp only [hd] at hK
           refine hK _ _ ?_ rfl
           exact waysR_same _ _ _ _)
        refine LexTL.last ?_ ?_
        · intro i' j Φ hij _ hj v W W' hΦ ht
          rcases j with _ | _ | _ | _ | _ | _ | _ | _ | _ | _ | j
          all_goals simp only [List.nil_append, List.cons_append, List.getElem?_cons_zero, List.getElem?_cons_succ, List.getElem?_nil, Option.some.injEq, reduceCtorEq] at hj
          all_goals subst hj
          · exact hΦ
          · exact hΦ
          · exact hΦ
          · exact hΦ
          · exact hΦ
          · exact hΦ
          · exact hΦ
          · exact MsgX.grownO hΦ ht.2
          · exact RowX.grow hΦ (ht.1 hij)
          · exact hΦ
        intro u w2 hk2 _ hd
        simp only [List.nil_append, List.cons_append] at hd
        have hu9 := hd 9 _ rfl
        obtain ⟨A4, c4, hu8, hOw4⟩ := hd 8 _ rfl
        simp only [Is] at hu9
        clear hd
        refine ⟨rfl, ?_⟩
        intro K hK
        have hO2 := hO.grownBy hk2 hRx
        refine wp_store_cell1 23 (.tmp 45) (.tmp 44) rfl g7 4 (by rw [← hu9]; rfl) (.slice A4 (m + 1) c4) (by rw [← hu8]; rfl) 25 _ hO2.b2 (by simp) (by kernel_rfl) rfl (hK _ _ ?_)
        replace hOw4 := hOw4.far (g := g7) (by omega) (fun k hk => Below.heap_setCell w2 ⟨g7, 4, none⟩ (.slice A4 (m + 1) c4) k hk)
        have hO4 := Own.cell2 hO2 4 (.slice A4 (m + 1) c4)
        clear hO2 hu8 hu9 hK hk2 hOw hRx hO hcl hcl2 hc0r
        generalize w2.setCell ⟨g7, 4, none⟩ (.slice A4 (m + 1) c4) = w4 at *
        go_wp2_with fail
        go_roundw
        case rel => exact ⟨k + 1, m + 1, A4, c4, _, by omega, by omega, by go_num, by rw [List.length_append, HZL.out]; rfl, by rw [List.map_append, HZ.out]; exact HS2.out.symm, hOw4, fun p hp => by
          rcases List.mem_append.1 hp with h | h
          · exact hbd p h
          · simp at h; subst h; exact HBX.out, hO4⟩
        case measure => simp [intOf]; omega
    · obtain rfl : k = n := by omega
      clear hcl2
      go_wp2_with (first
        | ((with_reducible refine own_loadg2 hO ?_ _ rfl rfl _ Try.underlying25 rfl (by kernel_rfl) ?_); (· first | rfl | (simp [Region.wanted, yielded]; done)))
        | ((with_reducible refine own_row1 #[.int .i64 x1, .int .i64 x2, .int .i64 x3, .int .i64 x4, .slice A3 m c3] hO rfl _ _ rfl rfl rfl (by kernel_rfl) rfl ?_ ?_); (· (simp [Value.oneCell']; done)); intro wR hOR hszR hkR; replace hOw := hOw.far (by have := hO.b2.lt; omega) hkR; replace hO := hOR; clear hOR hszR hkR))
      have hfin : zs.map (·.1) = ws.filter (fun x => decide (x.t ≠ t)) := by rw [HZ.out, List.take_of_length_le (by have := HN.out; omega)]
      exact bodyPost_ret (results_ct Try.results18 _ _ _ _ _ _ rfl rfl hO.b1 Try.underlying25 rfl (by kernel_rfl)) rfl ⟨_, rfl, ⟨_, rfl, (OwnV.is ⟨hOw, fun p hp => (hbd p hp).grow hO.below⟩ hfin (by rw [← hfin, List.length_map]; exact HZL.out))⟩, hO.below⟩
set_option maxHeartbeats 4000000 in
theorem rlacked_bad (l : Lk) (A : Option Addr) (n c : Nat) (xs : List (Wt × Value)) (t : Int) (w : World) (hx : xs.map (·.1) = l.waits) (hn : l.waits.length = n) (hW : WaitsAt w A xs) (hc : n ≤ 9223372036854775807) (hm : ¬ (mayL l = true ∧ findB l.waits t = true)) :
    Calls Try.prog 18 #[.agg #[.int .i64 l.period, .int .i64 l.most, .int .i64 l.quiet, .int .i64 l.heard, .slice A n c], .int .i64 t] w (RetR Lk.zero (if mayL l then 4 else 1) w) := by
  have hmay := fun W (h : WaitsAt W A xs) => rlmay_k l A n c xs W hx hn h hc
  have hpl := fun W (h : WaitsAt W A xs) => rlplace_k l A n c xs t W hx hn h hc
  have hO : Own w _ [_, _] := Own.start2 w 25 25 #[.int .i64 l.period, .int .i64 l.most, .int .i64 l.quiet, .int .i64 l.heard, .slice A n c] #[.int .i64 0, .int .i64 0, .int .i64 0, .int .i64 0, .slice none 0 0]
  have hcl := hO.b0.cell
  have hp0 : mayL l = true → placeI l.waits t = -1 := fun h => placeI_neg (by simpa [h] using hm)
  clear hm hx hn
  generalize mayL l = b1 at *
  cases b1 with
  | false =>
    clear hp0
    simp only [Bool.false_eq_true, if_false]
    go_enter Try.func18, Try.ntmps18
    go_wp2_with (first
      | ((with_reducible refine own_loadg0 hO ?_ _ rfl rfl _ Try.underlying25 rfl (by kernel_rfl) ?_); (· first | rfl | (simp [Region.wanted, yielded]; done)))
      | (go_at_call 23; (with_reducible refine (hmay _ (hW.below hO.below)).mono ?_); rintro e w1 ⟨rfl, hb1⟩; replace hO := hO.grow hb1)
      | ((with_reducible refine own_row1 (#[.int .i64 0, .int .i64 0, .int .i64 0, .int .i64 0, .slice none 0 0]) hO rfl _ _ rfl rfl rfl (by kernel_rfl) rfl ?_ ?_); (· first | rfl | (simp [Value.oneCell']; done)); intro wR hOR hszR hkR; replace hO := hOR; clear hOR)
      )
    exact bodyPost_ret (results_ct Try.results18 _ _ _ _ _ _ rfl rfl hO.b1 Try.underlying25 rfl (by kernel_rfl)) rfl ⟨_, rfl, ⟨_, rfl, IsWaits.nil _⟩, hO.below⟩
  | true =>
    rw [hp0 rfl] at hpl
    clear hp0
    simp only [if_true]
    go_enter Try.func18, Try.ntmps18
    go_wp2_with (first
      | ((with_reducible refine own_loadg0 hO ?_ _ rfl rfl _ Try.underlying25 rfl (by kernel_rfl) ?_); (· first | rfl | (simp [Region.wanted, yielded]; done)))
      | (go_at_call 23; (with_reducible refine (hmay _ (hW.below hO.below)).mono ?_); rintro e w1 ⟨rfl, hb1⟩; replace hO := hO.grow hb1)
      | (go_at_call 36; (with_reducible refine (hpl _ (hW.below hO.below)).mono ?_); rintro e w1 ⟨rfl, hb1⟩; replace hO := hO.grow hb1)
      | ((with_reducible refine own_row1 (#[.int .i64 0, .int .i64 0, .int .i64 0, .int .i64 0, .slice none 0 0]) hO rfl _ _ rfl rfl rfl (by kernel_rfl) rfl ?_ ?_); (· first | rfl | (simp [Value.oneCell']; done)); intro wR hOR hszR hkR; replace hO := hOR; clear hOR)
      )
    exact bodyPost_ret (results_ct Try.results18 _ _ _ _ _ _ rfl rfl hO.b1 Try.underlying25 rfl (by kernel_rfl)) rfl ⟨_, rfl, ⟨_, rfl, IsWaits.nil _⟩, hO.below⟩
theorem rlacked_k (l : Lk) (A : Option Addr) (n c : Nat) (xs : List (Wt × Value)) (t : Int) (w : World) (hx : xs.map (·.1) = l.waits) (hn : l.waits.length = n) (hW : WaitsAt w A xs) (hc : n ≤ 9223372036854775807) :
    Calls Try.prog 18 #[.agg #[.int .i64 l.period, .int .i64 l.most, .int .i64 l.quiet, .int .i64 l.heard, .slice A n c], .int .i64 t] w (RetR (ackedL l t) (ackedE l t) w) := by
  by_cases h : mayL l = true ∧ findB l.waits t = true
  · have e1 : ackedE l t = 0 := by unfold ackedE; rw [h.1, h.2]; rfl
    unfold ackedL
    rw [if_pos e1, e1]
    exact rlacked_ok l A n c xs t w hx hn hW hc h.1 h.2
  · have e1 : ackedE l t = (if mayL l then 4 else 1) ∧ ackedE l t ≠ 0 := by
      unfold ackedE
      cases h1 : mayL l <;> cases h2 : findB l.waits t <;> simp_all
    unfold ackedL
    rw [if_neg e1.2, e1.1]
    exact rlacked_bad l A n c xs t w hx hn hW hc h
end Go.Proofs.Ytiloammjejggjaa
