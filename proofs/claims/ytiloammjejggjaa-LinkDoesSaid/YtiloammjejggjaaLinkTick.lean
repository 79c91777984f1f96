/- link.Tick. -/
import Derived.Test.YtiloammjejggjaaLinkParts
import Derived.Deep.QuietTactic
import Derived.BigQuiet
set_option linter.unusedSimpArgs false
set_option linter.unusedVariables false
namespace Go.Proofs.Ytiloammjejggjaa
open Go.RowKit

theorem results_cttt {P : Program} {fn : Func} {a c d f : Tmp} {t1 : TypeId} (h : fn.results = #[.cell a t1, .tmp c, .tmp d, .tmp f]) (tmps : Array Value) (w : World) (g1 : Nat) (c1 : Array Value) (v1 v2 v3 : Value) (d1 : TypeDesc)
    (ha : tmps.getD a undef = .pointer (some ⟨g1, 0, none⟩)) (hc : tmps.getD c undef = v1) (hd : tmps.getD d undef = v2) (hf : tmps.getD f undef = v3) (h1 : Blk w g1 t1 c1)
    (u1 : P.underlying t1 = some d1) (k1 : (match d1 with | .struct _ | .array _ _ => true | _ => false) = true) (i1 : (P.info? t1).map (·.size) = some c1.size) :
    (results fn tmps).run P w = .ok (.tuple #[.agg c1, v1, v2, v3]) w := by
  have ha' : tmps[a]?.getD undef = .pointer (some ⟨g1, 0, none⟩) := by simpa using ha
  have hc' : tmps[c]?.getD undef = v1 := by simpa using hc
  have hd' : tmps[d]?.getD undef = v2 := by simpa using hd
  have hf' : tmps[f]?.getD undef = v3 := by simpa using hf
  simp [results, h, ha', hc', hd', hf', asAddr, run_loadVar_row w g1 t1 t1 c1 (0, 0) d1 h1 u1 k1 i1]
set_option maxHeartbeats 4000000 in
theorem lktick_bad (l : Lk) (A : Option Addr) (n c : Nat) (xs : List (Wt × Value)) (t : Int) (w : World) (hx : xs.map (·.1) = l.waits) (hn : l.waits.length = n) (hW : WaitsAt w A xs) (hc : n ≤ 9223372036854775807) (he : heardE l t ≠ 0) :
    Calls Try.prog 15 #[.agg #[.int .i64 l.period, .int .i64 l.most, .int .i64 l.quiet, .int .i64 l.heard, .slice A n c], .int .i64 t] w (RetT Lk.zero [] false 1 w) := by
  have hmay := fun W (h : WaitsAt W A xs) => lkmay_k l A n c xs W hx hn h hc
  have htm := fun W => lktime_k t W
  have hO : Own w _ [_, _, _] := Own.start3 w 25 3 25 #[.int .i64 l.period, .int .i64 l.most, .int .i64 l.quiet, .int .i64 l.heard, .slice A n c] #[.int .i64 t] #[.int .i64 0, .int .i64 0, .int .i64 0, .int .i64 0, .slice none 0 0]
  have hcl1 := hO.b0.cell
  have hcn1 := hO.b1.cell
  unfold heardE at he
  cases hm : mayL l with
  | false =>
    rw [hm] at hmay
    clear hm hx hn he htm
    go_enter Try.func15, Try.ntmps15
    go_wp2_with (first
      | ((with_reducible refine own_loadg0 hO ?_ _ rfl rfl _ Try.underlying25 rfl (by kernel_rfl) ?_); (· first | rfl | (simp [Region.wanted, yielded]; done)))
      | (go_at_call 13; (with_reducible refine (hmay _ (hW.below hO.below)).mono ?_); rintro e w1 ⟨rfl, hb1⟩; replace hO := hO.grow hb1; have hcl1 := hO.b0.cell; have hcn1 := hO.b1.cell)
      | (go_at_call 25; (with_reducible refine (htm _).mono ?_); rintro e w1 ⟨rfl, hb1⟩; replace hO := hO.grow hb1; have hcl1 := hO.b0.cell; have hcn1 := hO.b1.cell)
      | ((with_reducible refine own_row2 (#[.int .i64 0, .int .i64 0, .int .i64 0, .int .i64 0, .slice none 0 0]) hO rfl _ _ rfl rfl rfl (by kernel_rfl) rfl ?_ ?_); (· first | rfl | (simp [Value.oneCell']; done)); intro wR hOR hszR hkR; replace hO := hOR; clear hOR)
      )
    exact bodyPost_ret (results_cttt Try.results15 _ _ _ _ _ _ _ _ rfl rfl rfl rfl hO.b2 Try.underlying25 rfl (by kernel_rfl)) rfl ⟨_, _, rfl, link_zero _, IsPartsN.nil _, hO.below⟩
  | true =>
    rw [hm] at hmay
    cases ht : isTime t with
    | true => rw [hm, ht] at he; exact absurd rfl he
    | false =>
      rw [ht] at htm
      clear hm ht hx hn he
      go_enter Try.func15, Try.ntmps15
      go_wp2_with (first
        | ((with_reducible refine own_loadg0 hO ?_ _ rfl rfl _ Try.underlying25 rfl (by kernel_rfl) ?_); (· first | rfl | (simp [Region.wanted, yielded]; done)))
        | (go_at_call 13; (with_reducible refine (hmay _ (hW.below hO.below)).mono ?_); rintro e w1 ⟨rfl, hb1⟩; replace hO := hO.grow hb1; have hcl1 := hO.b0.cell; have hcn1 := hO.b1.cell)
        | (go_at_call 25; (with_reducible refine (htm _).mono ?_); rintro e w1 ⟨rfl, hb1⟩; replace hO := hO.grow hb1; have hcl1 := hO.b0.cell; have hcn1 := hO.b1.cell)
        | ((with_reducible refine own_row2 (#[.int .i64 0, .int .i64 0, .int .i64 0, .int .i64 0, .slice none 0 0]) hO rfl _ _ rfl rfl rfl (by kernel_rfl) rfl ?_ ?_); (· first | rfl | (simp [Value.oneCell']; done)); intro wR hOR hszR hkR; replace hO := hOR; clear hOR)
        )
      exact bodyPost_ret (results_cttt Try.results15 _ _ _ _ _ _ _ _ rfl rfl rfl rfl hO.b2 Try.underlying25 rfl (by kernel_rfl)) rfl ⟨_, _, rfl, link_zero _, IsPartsN.nil _, hO.below⟩
set_option maxHeartbeats 4000000 in
theorem lktick_lost (l : Lk) (A : Option Addr) (n c : Nat) (xs : List (Wt × Value)) (t : Int) (w : World) (hx : xs.map (·.1) = l.waits) (hn : l.waits.length = n) (hW : WaitsAt w A xs) (hc : n ≤ 9223372036854775807) (he : heardE l t = 0) (hl : lostL l t = true) :
    Calls Try.prog 15 #[.agg #[.int .i64 l.period, .int .i64 l.most, .int .i64 l.quiet, .int .i64 l.heard, .slice A n c], .int .i64 t] w (RetT l [] true 0 w) := by
  have POST : ∀ v e w', (∃ u, e = .returned (.tuple #[v, .slice none 0 0, .bool true, .int .i64 0]) ∧ v = .agg #[.int .i64 l.period, .int .i64 l.most, .int .i64 l.quiet, .int .i64 l.heard, u] ∧ IsWaitsN w.heap.size l.waits u w' ∧ Below w.heap.size w w') → RetT l [] true 0 w e w' := by
    rintro v e w' ⟨u, rfl, rfl, hu, hb⟩
    exact ⟨_, _, rfl, ⟨u, rfl, hu⟩, IsPartsN.nil _, hb⟩
  obtain ⟨PP, hPP⟩ : ∃ PP, PP = RetT l [] true 0 w := ⟨_, rfl⟩
  rw [← hPP] at POST ⊢
  clear hPP
  have hmay := fun W (h : WaitsAt W A xs) => lkmay_k l A n c xs W hx hn h hc
  have htm := fun W => lktime_k t W
  have hO : Own w _ [_, _, _] := Own.start3 w 25 3 25 #[.int .i64 l.period, .int .i64 l.most, .int .i64 l.quiet, .int .i64 l.heard, .slice A n c] #[.int .i64 t] #[.int .i64 0, .int .i64 0, .int .i64 0, .int .i64 0, .slice none 0 0]
  have hcl1 := hO.b0.cell
  have hcn1 := hO.b1.cell
  have hm : mayL l = true ∧ isTime t = true := by
    unfold heardE at he
    cases h1 : mayL l <;> cases h2 : isTime t <;> simp [h1, h2] at he ⊢
  obtain ⟨hm, ht⟩ := hm
  have hH := mayL_head hm
  have hcop := fun W (h : WaitsAt W A xs) => lkcopied_k l A n c xs W hx hn h (by omega) (mayL_sized hm)
  have hszb := mayL_sized hm
  have hbdb := mayL_bounds hm
  rw [hm] at hmay
  rw [ht] at htm
  obtain ⟨h11, h12, h31, h32, h21, h22, ⟨h41, h42⟩, hlen⟩ := hH
  obtain ⟨ht1, ht2⟩ := isTime_iff.1 ht
  unfold Copied at hcop
  rw [hn] at hcop hlen
  unfold lostL at hl
  clear hm ht he hx
  obtain ⟨ws, hws⟩ : ∃ ws, ws = l.waits := ⟨_, rfl⟩
  rw [← hws] at hn hcop hl hszb hbdb POST
  clear hws
  generalize l.period = x1 at *
  generalize l.most = x2 at *
  generalize l.quiet = x3 at *
  generalize l.heard = x4 at *
  have HN := Lib.hid hn
  have HSZ := Lib.hid hszb
  have HBD := Lib.hid hbdb
  clear hn hszb hbdb
  by_cases hq : x4 + x3 < t
  · have hq1 : decide (x4 + x3 < t) = true := by simpa using hq
    clear hl
    go_enter Try.func15, Try.ntmps15
    go_wp2_with (first
      | ((with_reducible refine own_loadg0 hO ?_ _ rfl rfl _ Try.underlying25 rfl (by kernel_rfl) ?_); (· first | rfl | (simp [Region.wanted, yielded]; done)))
      | (go_at_call 13; (with_reducible refine (hmay _ (hW.below hO.below)).mono ?_); rintro e w1 ⟨rfl, hb1⟩; replace hO := hO.grow hb1; have hcl1 := hO.b0.cell; have hcn1 := hO.b1.cell)
      | (go_at_call 25; (with_reducible refine (htm _).mono ?_); rintro e w1 ⟨rfl, hb1⟩; replace hO := hO.grow hb1; have hcl1 := hO.b0.cell; have hcn1 := hO.b1.cell)
      | (go_at_call 28; (with_reducible refine (hcop _ (hW.below hO.below)).mono ?_); rintro e w1 ⟨A2, c2, ys, rfl, hys, hOw, hb1⟩; have hbs := hO.b2.lt; replace hO := hO.grow hb1; replace hOw := hOw.mono (base' := w.heap.size + 3) hbs; have HY := Lib.hid hys; have hV := hOw.v; clear hys hOw hmay hcop hbs htm)
      | ((with_reducible refine own_row0 #[.int .i64 x1, .int .i64 x2, .int .i64 x3, .int .i64 x4, .slice A2 n c2] hO rfl _ _ rfl rfl rfl (by kernel_rfl) rfl ?_ ?_); (· (simp [Value.oneCell']; done)); intro wR hOR hszR hkR; replace hV := hV.far hO.b0 (by simp [is8]) (by omega) hszR hkR; replace hO := hOR; clear hOR hszR hkR hcl1 hcn1; have hcl1 := hO.b0.cell; have hcn1 := hO.b1.cell)
      | ((with_reducible refine own_row2 #[.int .i64 x1, .int .i64 x2, .int .i64 x3, .int .i64 x4, .slice A2 n c2] hO rfl _ _ rfl rfl rfl (by kernel_rfl) rfl ?_ ?_); (· (simp [Value.oneCell']; done)); intro wR hOR hszR hkR; replace hV := hV.far hO.b2 (by simp [is8]) (by omega) hszR hkR; replace hO := hOR; clear hOR hszR hkR)
      )
    exact bodyPost_ret (results_cttt Try.results15 _ _ _ _ _ _ _ _ rfl rfl rfl rfl hO.b2 Try.underlying25 rfl (by kernel_rfl)) rfl (POST _ _ _ ⟨_, rfl, rfl, hV.isN (by omega) HY.out HN.out, hO.below⟩)
  · have hq1 : decide (x4 + x3 < t) = false := by simpa using hq
    rw [hq1, Bool.false_or] at hl
    have HLL := Lib.hid hl
    clear hl
    go_enter Try.func15, Try.ntmps15
    go_wp2_with (first
      | ((with_reducible refine own_loadg0 hO ?_ _ rfl rfl _ Try.underlying25 rfl (by kernel_rfl) ?_); (· first | rfl | (simp [Region.wanted, yielded]; done)))
      | (go_at_call 13; (with_reducible refine (hmay _ (hW.below hO.below)).mono ?_); rintro e w1 ⟨rfl, hb1⟩; replace hO := hO.grow hb1; have hcl1 := hO.b0.cell; have hcn1 := hO.b1.cell)
      | (go_at_call 25; (with_reducible refine (htm _).mono ?_); rintro e w1 ⟨rfl, hb1⟩; replace hO := hO.grow hb1; have hcl1 := hO.b0.cell; have hcn1 := hO.b1.cell)
      | (go_at_call 28; (with_reducible refine (hcop _ (hW.below hO.below)).mono ?_); rintro e w1 ⟨A2, c2, ys, rfl, hys, hOw, hb1⟩; have hbs := hO.b2.lt; replace hO := hO.grow hb1; replace hOw := hOw.mono (base' := w.heap.size + 3) hbs; have HY := Lib.hid hys; clear hys hmay hcop hbs htm)
      | ((with_reducible refine own_row0 #[.int .i64 x1, .int .i64 x2, .int .i64 x3, .int .i64 x4, .slice A2 n c2] hO rfl _ _ rfl rfl rfl (by kernel_rfl) rfl ?_ ?_); (· (simp [Value.oneCell']; done)); intro wR hOR hszR hkR; replace hOw := hOw.far hO.b0 (by simp [is8]) (by omega) hszR hkR; replace hO := hOR; clear hOR hszR hkR hcl1 hcn1; have hcl1 := hO.b0.cell; have hcn1 := hO.b1.cell)
      | (go_at_call 31; (with_reducible refine (wcontains_k ws A2 n c2 ys (spentP t x2) #[.pointer (some ⟨w.heap.size + 1, 0, none⟩), .pointer (some ⟨w.heap.size, 0, none⟩)] _ HY.out HN.out hOw.waits (by omega) (fun W hWb x v => by simpa using lkspent_k x v t x1 x2 x3 x4 (.slice A2 n c2) (w.heap.size + 1) w.heap.size W (hO.b1.below hWb hO.b1.lt) (hO.b0.below hWb hO.b0.lt))).mono ?_); rintro e w1 ⟨he1, hb1⟩; rw [HLL.out] at he1; subst he1; replace hOw := hOw.grow hb1; have hV := hOw.v; clear hOw; replace hO := hO.grow hb1; have hcl2 := hO.b0.cell; have hcn2 := hO.b1.cell)
      | ((with_reducible refine own_row2 #[.int .i64 x1, .int .i64 x2, .int .i64 x3, .int .i64 x4, .slice A2 n c2] hO rfl _ _ rfl rfl rfl (by kernel_rfl) rfl ?_ ?_); (· (simp [Value.oneCell']; done)); intro wR hOR hszR hkR; replace hV := hV.far hO.b2 (by simp [is8]) (by omega) hszR hkR; replace hO := hOR; clear hOR hszR hkR)
      )
    exact bodyPost_ret (results_cttt Try.results15 _ _ _ _ _ _ _ _ rfl rfl rfl rfl hO.b2 Try.underlying25 rfl (by kernel_rfl)) rfl (POST _ _ _ ⟨_, rfl, rfl, hV.isN (by omega) HY.out HN.out, hO.below⟩)
set_option maxHeartbeats 8000000 in
theorem lktick_goes (l : Lk) (A : Option Addr) (n c : Nat) (xs : List (Wt × Value)) (t : Int) (w : World) (hx : xs.map (·.1) = l.waits) (hn : l.waits.length = n) (hW : WaitsAt w A xs) (hc : n ≤ 9223372036854775807) (he : heardE l t = 0) (hl : lostL l t = false) :
    Calls Try.prog 15 #[.agg #[.int .i64 l.period, .int .i64 l.most, .int .i64 l.quiet, .int .i64 l.heard, .slice A n c], .int .i64 t] w (RetT ⟨l.period, l.most, l.quiet, l.heard, l.waits.map (tick1 t l.period)⟩ (againW l.waits t) false 0 w) := by
  have POST : ∀ v o e w', (∃ u, e = .returned (.tuple #[v, o, .bool false, .int .i64 0]) ∧ v = .agg #[.int .i64 l.period, .int .i64 l.most, .int .i64 l.quiet, .int .i64 l.heard, u] ∧ IsWaitsN w.heap.size (l.waits.map (tick1 t l.period)) u w' ∧ IsPartsN (againW l.waits t) o w' ∧ Below w.heap.size w w') → RetT ⟨l.period, l.most, l.quiet, l.heard, l.waits.map (tick1 t l.period)⟩ (againW l.waits t) false 0 w e w' := by
    rintro v o e w' ⟨u, rfl, rfl, hu, ho, hb⟩
    exact ⟨_, _, rfl, ⟨u, rfl, hu⟩, ho, hb⟩
  obtain ⟨PP, hPP⟩ : ∃ PP, PP = RetT ⟨l.period, l.most, l.quiet, l.heard, l.waits.map (tick1 t l.period)⟩ (againW l.waits t) false 0 w := ⟨_, rfl⟩
  rw [← hPP] at POST ⊢
  clear hPP
  have hmay := fun W (h : WaitsAt W A xs) => lkmay_k l A n c xs W hx hn h hc
  have htm := fun W => lktime_k t W
  have hO : Own w _ [_, _, _] := Own.start3 w 25 3 25 #[.int .i64 l.period, .int .i64 l.most, .int .i64 l.quiet, .int .i64 l.heard, .slice A n c] #[.int .i64 t] #[.int .i64 0, .int .i64 0, .int .i64 0, .int .i64 0, .slice none 0 0]
  have hcl1 := hO.b0.cell
  have hcn1 := hO.b1.cell
  have hm : mayL l = true ∧ isTime t = true := by
    unfold heardE at he
    cases h1 : mayL l <;> cases h2 : isTime t <;> simp [h1, h2] at he ⊢
  obtain ⟨hm, ht⟩ := hm
  have hH := mayL_head hm
  have hcop := fun W (h : WaitsAt W A xs) => lkcopied_k l A n c xs W hx hn h (by omega) (mayL_sized hm)
  have hszb := mayL_sized hm
  have hbdb := mayL_bounds hm
  rw [hm] at hmay
  rw [ht] at htm
  obtain ⟨h11, h12, h31, h32, h21, h22, ⟨h41, h42⟩, hlen⟩ := hH
  obtain ⟨ht1, ht2⟩ := isTime_iff.1 ht
  unfold Copied at hcop
  rw [hn] at hcop hlen
  unfold lostL at hl
  clear hm ht he hx
  obtain ⟨ws, hws⟩ : ∃ ws, ws = l.waits := ⟨_, rfl⟩
  rw [← hws] at hn hcop hl hszb hbdb POST
  clear hws
  generalize l.period = x1 at *
  generalize l.most = x2 at *
  generalize l.quiet = x3 at *
  generalize l.heard = x4 at *
  have HN := Lib.hid hn
  have HSZ := Lib.hid hszb
  have HBD := Lib.hid hbdb
  clear hn hszb hbdb
  rw [Bool.or_eq_false_iff] at hl
  obtain ⟨hq1, hl⟩ := hl
  have HLL := Lib.hid hl
  clear hl
  go_enter Try.func15, Try.ntmps15
  go_wp2_with (first
    | ((with_reducible refine own_loadg0 hO ?_ _ rfl rfl _ Try.underlying25 rfl (by kernel_rfl) ?_); (· first | rfl | (simp [Region.wanted, yielded]; done)))
    | (go_at_call 13; (with_reducible refine (hmay _ (hW.below hO.below)).mono ?_); rintro e w1 ⟨rfl, hb1⟩; replace hO := hO.grow hb1; have hcl1 := hO.b0.cell; have hcn1 := hO.b1.cell)
    | (go_at_call 25; (with_reducible refine (htm _).mono ?_); rintro e w1 ⟨rfl, hb1⟩; replace hO := hO.grow hb1; have hcl1 := hO.b0.cell; have hcn1 := hO.b1.cell)
    | (go_at_call 28; (with_reducible refine (hcop _ (hW.below hO.below)).mono ?_); rintro e w1 ⟨A2, c2, ys, rfl, hys, hOw, hb1⟩; have hbs := hO.b2.lt; replace hO := hO.grow hb1; replace hOw := hOw.mono (base' := w.heap.size + 3) hbs; have HY := Lib.hid hys; clear hys hmay hcop hbs htm)
    | ((with_reducible refine own_row0 #[.int .i64 x1, .int .i64 x2, .int .i64 x3, .int .i64 x4, .slice A2 n c2] hO rfl _ _ rfl rfl rfl (by kernel_rfl) rfl ?_ ?_); (· (simp [Value.oneCell']; done)); intro wR hOR hszR hkR; replace hOw := hOw.far hO.b0 (by simp [is8]) (by omega) hszR hkR; replace hO := hOR; clear hOR hszR hkR hcl1 hcn1; have hcl1 := hO.b0.cell; have hcn1 := hO.b1.cell)
    | (go_at_call 31; (with_reducible refine (wcontains_k ws A2 n c2 ys (spentP t x2) #[.pointer (some ⟨w.heap.size + 1, 0, none⟩), .pointer (some ⟨w.heap.size, 0, none⟩)] _ HY.out HN.out hOw.waits (by omega) (fun W hWb x v => by simpa using lkspent_k x v t x1 x2 x3 x4 (.slice A2 n c2) (w.heap.size + 1) w.heap.size W (hO.b1.below hWb hO.b1.lt) (hO.b0.below hWb hO.b0.lt))).mono ?_); rintro e w1 ⟨he1, hb1⟩; rw [HLL.out] at he1; subst he1; replace hOw := hOw.grow hb1; replace hO := hO.grow hb1; have hcl2 := hO.b0.cell; have hcn2 := hO.b1.cell)
    )
  rename World => wS
  have hR : ∀ g, rowOf A2 = some g → w.heap.size + 3 ≤ g ∧ g < wS.heap.size := fun g hg => hOw.own.row_ge g hg
  have hRx : ∀ g, rowOf A2 = some g → w.heap.size ≤ g ∧ ∀ x ∈ [((w.heap.size, 25, #[.int .i64 x1, .int .i64 x2, .int .i64 x3, .int .i64 x4, .slice A2 n c2]) : Bk), (w.heap.size + 1, 3, #[.int .i64 t]), (w.heap.size + 1 + 1, 25, #[.int .i64 0, .int .i64 0, .int .i64 0, .int .i64 0, .slice none 0 0])], x.1 ≠ g := fun g hg => by
    have := (hR g hg).1
    exact ⟨by omega, fun x hx => by simp at hx; rcases hx with rfl | rfl | rfl <;> simp <;> omega⟩
  have hyn : ys.length = n := by rw [← HN.out, ← HY.out, List.length_map]
  have HYN := Lib.hid hyn
  have HO2 := Lib.hid hO.b2.lt
  clear hyn
  go_loopw [9, 41] (fun o i wr => ∃ k : Nat, k ≤ n ∧ i = .int .i64 k ∧ wS.grownBy wr (rowOf A2) ∧ OwnW wr (w.heap.size + 3) A2 c2 (mixX t x1 ys k) ∧ PartsT wr wS.heap.size o (againW (ws.take k) t)) (fun _ i _ => n - (intOf i).toNat)
  case atStart => exact ⟨0, Nat.zero_le _, rfl, World.grownBy.refl wS _, by rw [mixX_zero]; exact hOw.own, PartsT.nil _ _⟩
  case round =>
    obtain ⟨k, hk, rfl, hg, hown, hparts⟩ := hrel
    have hOr := hO.grownBy hg hRx
    have hcl1 := hOr.b0.cell
    have hcn1 := hOr.b1.cell
    by_cases hlt : k < n
    · obtain ⟨⟨x, v⟩, hyk⟩ : ∃ p, ys[k]? = some p := ⟨_, List.getElem?_eq_getElem (by have := HYN.out; omega)⟩
      have hwk : ws[k]? = some x := by rw [← HY.out, List.getElem?_map, hyk]; rfl
      obtain ⟨Ab, cb, hv, hBs, hno⟩ := hOw.body _ (List.mem_of_getElem? hyk)
      simp only at hv hBs
      subst hv
      obtain ⟨hb1, hb2, hb3, hb4⟩ := HBD.out x (List.mem_of_getElem? hwk)
      have hbs := HSZ.out x (List.mem_of_getElem? hwk)
      have hmk := (mixX_at t x1 ys k).trans hyk
      have hWk : WaitsAt wr A2 (mixX t x1 ys k) := ⟨hown.row, fun p hp => by
        obtain ⟨q, hq, e1, e2⟩ := mixX_mem hp
        rw [e1, e2]
        exact ((hOw.body q hq).grownO hg).is⟩
      obtain ⟨b, off, hA, hbl, hc0, hc1, hc2, hc3⟩ := hWk.at_ hmk
      obtain ⟨g, cur, hA2, hgB, hgblk, hgs, _⟩ := hown.blk (by rw [mixX_length]; have := HYN.out; omega)
      obtain ⟨rfl, rfl⟩ : b = g ∧ off = 0 := by
        rw [hA] at hA2
        injection hA2 with e
        injection e with e1 e2
        exact ⟨e1, e2⟩
      subst hA
      clear hA2 hWk
      simp only [Nat.zero_add] at hc0 hc1 hc2 hc3
      have hcap : n ≤ c2 := by have := hown.cap.1; rw [mixX_length] at this; have := HYN.out; omega
      have hRb := (hR b rfl).1
      have hbneb : b ≠ w.heap.size ∧ b ≠ w.heap.size + 1 ∧ b ≠ w.heap.size + 1 + 1 := by omega
      have HYK := Lib.hid hyk
      have HW := Lib.hid hwk
      have HMK := Lib.hid hmk
      have hbSz : b < wS.heap.size := (hR b rfl).2
      clear hwk hyk hmk hcap hgs
      by_cases hdue : x.due ≤ t
      · have hdd : decide (x.due ≤ t) = true := by simpa using hdue
        go_wp2_with fail
        go_quiet (fail)
        generalize hwq : World.drewN wr _ = wq
        have hgq : wS.grownBy wq (rowOf (some ⟨b, 0, none⟩)) := hwq ▸ ⟨hg.os, hg.tape, hg.output, hg.size, hg.block⟩
        have hownq : OwnW wq (w.heap.size + 3) (some ⟨b, 0, none⟩) c2 (mixX t x1 ys k) := hwq ▸ hown
        have hpartsq : PartsT wq wS.heap.size u9 (againW (ws.take k) t) := by rw [← hwq]; exact hparts.grow (below_drewN (Below.refl _ _) _)
        have hblkq : Blk wq b 35 cur := hwq ▸ hgblk
        have hfq := hblkq.frozen
        have hc1q : wq.cell? ⟨b, k * 4 + 1, none⟩ = some (.int .i64 x.due) := hwq ▸ hc1
        have hc2q : wq.cell? ⟨b, k * 4 + 2, none⟩ = some (.int .i64 x.tries) := hwq ▸ hc2
        have hc3q : wq.cell? ⟨b, k * 4 + 3, none⟩ = some (.slice Ab x.body.length cb) := hwq ▸ hc3
        have hOq := hO.grownBy hgq hRx
        have hclq := hOq.b0.cell
        have hcnq := hOq.b1.cell
        clear hwq hg hown hparts hgblk hc0 hc1 hc2 hc3 hOr hcl1 hcn1 hdd
        have hrq := hpartsq.row_ge
        have hgst : wq.grownBy ((wq.setCell ⟨b, k * 4 + 2, none⟩ (.int .i64 (x.tries + 1))).setCell ⟨b, k * 4 + 1, none⟩ (.int .i64 (t + x1))) (some b) := grownBy_trans (grownBy_cell _ _ _ _) (grownBy_cell _ _ _ _)
        have hB2 : Bytes ((wq.setCell ⟨b, k * 4 + 2, none⟩ (.int .i64 (x.tries + 1))).setCell ⟨b, k * 4 + 1, none⟩ (.int .i64 (t + x1))) Ab cb x.body := hBs.grownOff hno (grownBy_trans hgq hgst)
        have hpart2 := hpartsq.grown hgst (fun q hq => by injection hq with hq; subst hq; exact ⟨hbSz, _, _, _, hblkq, by decide⟩)
        have hown2 := hownq.bump_ HMK.out t x1
        have hal := againW_len (ws.take k) t
        have htl : (ws.take k).length ≤ k := List.length_take_le _ _
        have hsz2 : ((wq.setCell ⟨b, k * 4 + 2, none⟩ (.int .i64 (x.tries + 1))).setCell ⟨b, k * 4 + 1, none⟩ (.int .i64 (t + x1))).heap.size = wq.heap.size := by simp [World.setCell]
        have hszq := hgq.size
        have HSZ2 := Lib.hid hsz2
        clear hsz2
        go_wp2_with (first
          | (go_at_call 32; (with_reducible refine (bclone_t Ab x.body.length cb x.body _ rfl hB2 (by omega)).mono ?_); rintro e w3 ⟨A3, c3, rfl, ho3, hb3⟩; have hT3 := IsBytesT.own ho3 rfl; have hz3 := hb3.size; rw [HSZ2.out] at hz3)
          | (at_builtin; refine wpList_app_part rfl (.tmp 68) (.tmp 74) rfl wS.heap.size u9 _ rfl ((hpart2.grow hb3).grow ((Below.refl _ _).alloc (Nat.le_refl _) _)) w3.heap.size x.body (.slice A3 x.body.length c3) rfl (Blk.new w3 _ _) (hT3.grow ((Below.refl _ _).alloc (Nat.le_refl _) _)) (by omega) (by simp; omega) ?_; intro v' w4 hp4 hg4))
        go_roundw
        case rel =>
          refine ⟨k + 1, by omega, by go_num, ?_, ?_, ?_⟩
          · exact grownBy_far (grownBy_trans (grownBy_trans (grownBy_trans hgq hgst) (grown_of_below hb3 _)) (grown_of_below ((Below.refl _ _).alloc (Nat.le_refl _) _) _)) hg4 (fun q hq => (hrq q hq).1)
          · rw [mixX_succ HYK.out]
            have e : tick1 t x1 x = bump t x1 x := by unfold tick1; rw [if_pos hdue]
            rw [e]
            exact ((hown2.below hb3).alloc _).grownOff hg4 (fun q hq e => by simp [rowOf] at hq; subst hq; have := (hrq b e).1; omega)
          · rw [againW_succ HW.out, if_pos hdue]
            exact hp4
        case measure => simp [intOf]; omega
      · have hdd : decide (x.due ≤ t) = false := by simpa using hdue
        go_wp2_with fail
        go_quiet (fail)
        generalize hwq : World.drewN wr _ = wq
        have hgq : wS.grownBy wq (rowOf (some ⟨b, 0, none⟩)) := hwq ▸ ⟨hg.os, hg.tape, hg.output, hg.size, hg.block⟩
        have hownq : OwnW wq (w.heap.size + 3) (some ⟨b, 0, none⟩) c2 (mixX t x1 ys k) := hwq ▸ hown
        have hpartsq : PartsT wq wS.heap.size u9 (againW (ws.take k) t) := by rw [← hwq]; exact hparts.grow (below_drewN (Below.refl _ _) _)
        clear hwq hg hown hparts hgblk hc0 hc1 hc2 hc3 hOr hcl1 hcn1 hdd
        go_wp2_with fail
        go_roundw
        case rel =>
          refine ⟨k + 1, by omega, by go_num, hgq, ?_, ?_⟩
          · rw [mixX_same HYK.out (by omega)]; exact hownq
          · rw [againW_succ HW.out, if_neg (by omega), List.append_nil]; exact hpartsq
        case measure => simp [intOf]; omega
    · obtain rfl : k = n := by omega
      have hV : OwnV wr (w.heap.size + 3) A2 c2 (mixX t x1 ys ys.length) := ⟨by rw [HYN.out]; exact hown, fun p hp => by
        obtain ⟨q, hq, e1, e2⟩ := mixX_mem hp
        rw [e1, e2]
        exact ((hOw.body q hq).grownO hg).is⟩
      have hmx := mixX_end (now := t) (per := x1) HY.out
      have hpt : PartsT wr wS.heap.size u9 (againW ws t) := by
        rw [List.take_of_length_le (by have := HN.out; omega)] at hparts
        exact hparts
      have HMX := Lib.hid hmx
      clear hmx hown hparts
      clear hO
      have hO := hOr
      clear hOr
      have hb2lt := hO.b2.lt
      have hO2lt : w.heap.size + 1 + 1 < wS.heap.size := HO2.out
      go_wp2_with (first
        | ((with_reducible refine own_loadg0 hO ?_ _ rfl rfl _ Try.underlying25 rfl (by kernel_rfl) ?_); (· first | rfl | (simp [Region.wanted, yielded]; done)))
        | ((with_reducible refine own_row2 #[.int .i64 x1, .int .i64 x2, .int .i64 x3, .int .i64 x4, .slice A2 k c2] hO rfl _ _ rfl rfl rfl (by kernel_rfl) rfl ?_ ?_); (· (simp [Value.oneCell']; done)); intro wR hOR hszR hkR; replace hV := hV.far hO.b2 (by simp [is8]) (by omega) hszR hkR; replace hpt := hpt.farT hO.b2 (by decide) hO2lt hszR hkR (hOR.below.os.trans hO.below.os.symm) (hOR.below.tape.trans hO.below.tape.symm) (hOR.below.output.trans hO.below.output.symm); replace hO := hOR; clear hOR hszR hkR)
        )
      exact bodyPost_ret (results_cttt Try.results15 _ _ _ _ _ _ _ _ rfl rfl rfl rfl hO.b2 Try.underlying25 rfl (by kernel_rfl)) rfl (POST _ _ _ _ ⟨_, rfl, rfl, hV.isN (by omega) HMX.out (by rw [List.length_map, HN.out]), hpt.isN, hO.below⟩)
theorem lktick_k (l : Lk) (A : Option Addr) (n c : Nat) (xs : List (Wt × Value)) (t : Int) (w : World) (hx : xs.map (·.1) = l.waits) (hn : l.waits.length = n) (hW : WaitsAt w A xs) (hc : n ≤ 9223372036854775807) :
    Calls Try.prog 15 #[.agg #[.int .i64 l.period, .int .i64 l.most, .int .i64 l.quiet, .int .i64 l.heard, .slice A n c], .int .i64 t] w (RetT (tickL l t) (tickO l t) (tickB l t) (heardE l t) w) := by
  unfold tickL tickO tickB
  by_cases he : heardE l t = 0
  · rw [if_pos he, if_pos he, if_pos he, he]
    cases hl : lostL l t with
    | true => exact lktick_lost l A n c xs t w hx hn hW hc he hl
    | false => exact lktick_goes l A n c xs t w hx hn hW hc he hl
  · rw [if_neg he, if_neg he, if_neg he]
    have e1 : heardE l t = 1 := by unfold heardE at he ⊢; split <;> simp_all
    rw [e1]
    exact lktick_bad l A n c xs t w hx hn hW hc he
end Go.Proofs.Ytiloammjejggjaa
