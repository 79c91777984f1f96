/- The document's Tick. -/
import Derived.Test.YtiloammjejggjaaLinkRefSent
set_option linter.unusedSimpArgs false
set_option linter.unusedVariables false
namespace Go.Proofs.Ytiloammjejggjaa
open Go.RowKit

/-- What the document's Tick hands back. -/
def RetRT (l : Lk) (o : List (List UInt8)) (b : Bool) (er : Int) (w : World) (e : Ending) (w' : World) : Prop := ∃ v u, e = .returned (.tuple #[v, u, .bool b, .int .i64 er]) ∧ IsLink l v w' ∧ IsParts o u w' ∧ Below w.heap.size w w'
/-- Bodies of an earlier world in a row of the call's own. -/
def PartsW (w0 W : World) (base : Nat) (v : Value) (bss : List (List UInt8)) : Prop := ∃ vs, W.ownsRow base 33 1 v bss.length vs ∧ ∀ (i : Nat) b u, bss[i]? = some b → vs[i]? = some u → IsBytes b u w0
theorem PartsW.nil (w0 W : World) (base : Nat) : PartsW w0 W base (.slice none 0 0) [] := ⟨[], World.ownsRow_nil W base _ 1, fun i b u h => by simp at h⟩
theorem PartsW.is {w0 W : World} {base : Nat} {v : Value} {bss : List (List UInt8)} (h : PartsW w0 W base v bss) (hb : Below w0.heap.size w0 W) : IsParts bss v W := by
  obtain ⟨vs, ho, hB⟩ := h
  have hl : vs.length = bss.length := by have := ho.1; omega
  rcases ho.2 with ⟨rfl, h0⟩ | ⟨g, cap, cur, rfl, h1, h2, h3, h4, h5, h6⟩
  · have : bss = [] := List.eq_nil_of_length_eq_zero h0
    subst this
    exact IsParts.nil W
  · exact ⟨_, cap, vs, rfl, Row.own ho, hl, fun i b u hi hu => (hB i b u hi hu).grow hb, h3, h4⟩
theorem PartsW.off {w0 W W' : World} {base : Nat} {v : Value} {bss : List (List UInt8)} {R : Option Nat} (h : PartsW w0 W base v bss) (hg : W.grownBy W' R) (hR : ∀ g, v.ownBlock = some g → R ≠ some g) : PartsW w0 W' base v bss := by
  obtain ⟨vs, ho, hB⟩ := h
  refine ⟨vs, ⟨ho.1, ?_⟩, hB⟩
  rcases ho.2 with h0 | ⟨g, cap, cur, rfl, h1, h2, h3⟩
  · exact .inl h0
  · have hlt : g < W.heap.size := by
      rcases Nat.lt_or_ge g W.heap.size with h | h
      · exact h
      · rw [Array.getElem?_eq_none h] at h2; cases h2
    exact .inr ⟨g, cap, cur, rfl, h1, (hg.block g hlt (fun e => hR g rfl e.symm)).trans h2, h3⟩
theorem PartsW.below {w0 W W' : World} {base : Nat} {v : Value} {bss : List (List UInt8)} (h : PartsW w0 W base v bss) (hb : Below W.heap.size W W') : PartsW w0 W' base v bss := h.off (grown_of_below hb none) (fun g _ e => by cases e)
theorem PartsW.row_ge {w0 W : World} {base : Nat} {v : Value} {bss : List (List UInt8)} (h : PartsW w0 W base v bss) : ∀ g, v.ownBlock = some g → base ≤ g ∧ g < W.heap.size := by
  obtain ⟨vs, ho, _⟩ := h
  exact World.ownsRow.lt ho
theorem PartsW.far {w0 W W' : World} {base : Nat} {v : Value} {bss : List (List UInt8)} (h : PartsW w0 W base v bss) {g : Nat} (hlt : g < base) (hk : ∀ k, k ≠ g → W'.heap[k]? = W.heap[k]?) : PartsW w0 W' base v bss := by
  obtain ⟨vs, ho, hB⟩ := h
  refine ⟨vs, ⟨ho.1, ?_⟩, hB⟩
  rcases ho.2 with h0 | ⟨k, cap, cur, e, h1, h2, h3⟩
  · exact .inl h0
  · exact .inr ⟨k, cap, cur, e, h1, (hk k (by omega)).trans h2, h3⟩
theorem rows_apart {w0 W : World} {base base' c : Nat} {A : Option Addr} {xs : List (Wt × Value)} {v : Value} {bss : List (List UInt8)} (h : OwnW W base A c xs) (k : PartsW w0 W base' v bss) : ∀ g, rowOf A = some g → v.ownBlock ≠ some g := by
  intro g hg hv
  obtain ⟨vs, ho, _⟩ := k
  rcases ho.2 with ⟨rfl, _⟩ | ⟨g1, cap1, cur1, rfl, _, h2, _⟩
  · cases hv
  · simp [Value.ownBlock] at hv
    subst hv
    rcases h.2 with ⟨e, _⟩ | ⟨g2, cap2, cur2, e, _, k2, _⟩
    · simp only [Value.slice.injEq] at e
      obtain ⟨rfl, _, _⟩ := e
      cases hg
    · simp only [Value.slice.injEq] at e
      obtain ⟨rfl, _, _⟩ := e
      simp [rowOf] at hg
      subst hg
      rw [h2] at k2
      simp at k2
theorem wpList_app_partW {w0 w : World} {ops : Array Oper} {rest : List Oper} {o : Oper} {a : Act} {Q : Exit → Act → World → Prop} (hgd : o.guard = none) (s x : Operand)
    (ho : o.op = .call { callee := .builtin .append, args := #[s, x], argTypes := #[36, 36] })
    (base : Nat) (v : Value) (bss : List (List UInt8)) (hs : a.eval s = v) (hP : PartsW w0 w base v bss)
    (g : Nat) (b : List UInt8) (u : Value) (hx : a.eval x = .slice (some ⟨g, 0, none⟩) 1 1) (hg : Blk w g 33 #[u]) (hu : IsBytes b u w0) (hlen : bss.length ≤ 60000) (hbase : base ≤ w.heap.size)
    (h : ∀ v' W, PartsW w0 W base v' (bss ++ [b]) → w.grownBy W v.ownBlock → wpList Try.prog ops Q rest (a.put o.dst v') W) : wpList Try.prog ops Q (o :: rest) a w := by
  obtain ⟨vs, hown, hB⟩ := hP
  obtain ⟨i0, hi0, hz0, hz1, hz2⟩ := info_parts info_bytes
  have hvl : vs.length = bss.length := by have := hown.1; omega
  have hrd : Reads w w.heap.size 1 (some ⟨g, 0, none⟩) 1 [u] := ⟨rfl, fun _ => ⟨⟨g, 0, none⟩, rfl, hg.lt, fun j y hy => by
    rw [add0, hg.cell]
    simpa using hy⟩⟩
  refine wpList_append_any w hgd s x 36 ho base 33 i0 _ 1 24 Try.underlying36 hi0 hz0 hz1 hz2 rfl (by omega) _ _ _ hs hown w.heap.size (some ⟨g, 0, none⟩) 1 1 [u] hx hrd (by intro y hy; simp at hy; subst hy; exact hu.one) (by simp only [maxLen]; omega) (by omega) hbase ?_
  intro v' W h1 h2 h3
  refine h v' W ⟨vs ++ [u], by rw [List.length_append]; exact h1, fun i b' u' hi hu' => ?_⟩ h2
  rw [List.getElem?_append] at hi hu'
  rw [hvl] at hu'
  by_cases hlt : i < bss.length
  · rw [if_pos hlt] at hi hu'
    exact hB i b' u' hi hu'
  · rw [if_neg hlt] at hi hu'
    have hi0 : i - bss.length = 0 := by
      rcases Nat.eq_zero_or_pos (i - bss.length) with h | h
      · exact h
      · rw [List.getElem?_eq_none (by simp; omega)] at hi; cases hi
    rw [hi0] at hi hu'
    simp at hi hu'
    subst hi
    subst hu'
    exact hu
theorem Own.add {w W W' : World} {L : List Bk} {g : Nat} {t : TypeId} {cs : Array Value} (h : Own w W L) (k : Own W W' [(g, t, cs)]) : Own w W' (L ++ [(g, t, cs)]) := by
  have h1 := h.grow k.below
  refine ⟨h1.below, fun x hx => ?_, ?_⟩
  · rcases List.mem_append.1 hx with hx | hx
    · exact h1.blk x hx
    · simp at hx
      subst hx
      exact ⟨Nat.le_trans h.below.size (k.blk _ (by simp)).1, (k.blk _ (by simp)).2⟩
  · have hlt : ∀ x ∈ L, x.1 < W.heap.size := fun x hx => (h.blk x hx).2.lt
    have hg := (k.blk (g, t, cs) (by simp)).1
    have := h.nodup
    simp only [List.map_append, List.map_cons, List.map_nil] at this ⊢
    rw [List.nodup_append]
    refine ⟨this, by simp, fun a ha b hb => ?_⟩
    simp at hb
    subst hb
    obtain ⟨x, hx, rfl⟩ := List.mem_map.1 ha
    have := hlt x hx
    simp only at hg
    omega
set_option maxHeartbeats 4000000 in
theorem rltick_bad (l : Lk) (A : Option Addr) (n c : Nat) (xs : List (Wt × Value)) (t : Int) (w : World) (hx : xs.map (·.1) = l.waits) (hn : l.waits.length = n) (hW : WaitsAt w A xs) (hc : n ≤ 9223372036854775807) (he : heardE l t ≠ 0) :
    Calls Try.prog 21 #[.agg #[.int .i64 l.period, .int .i64 l.most, .int .i64 l.quiet, .int .i64 l.heard, .slice A n c], .int .i64 t] w (RetRT Lk.zero [] false 1 w) := by
  have hmay := fun W (h : WaitsAt W A xs) => rlmay_k l A n c xs W hx hn h hc
  have htm := fun W => rtime11_k t W
  have hO : Own w _ [_, _] := Own.start2 w 25 25 #[.int .i64 l.period, .int .i64 l.most, .int .i64 l.quiet, .int .i64 l.heard, .slice A n c] #[.int .i64 0, .int .i64 0, .int .i64 0, .int .i64 0, .slice none 0 0]
  have hcl := hO.b0.cell
  unfold heardE at he
  generalize mayL l = b1 at *
  generalize isTime t = b2 at *
  clear hx hn
  have h2 : b1 = false ∨ (b1 = true ∧ b2 = false) := by cases b1 <;> cases b2 <;> simp_all
  clear he
  rcases h2 with rfl | ⟨rfl, rfl⟩
  all_goals
    go_enter Try.func21, Try.ntmps21
    go_wp2_with (first
      | ((with_reducible refine own_loadg0 hO ?_ _ rfl rfl _ Try.underlying25 rfl (by kernel_rfl) ?_); (· first | rfl | (simp [Region.wanted, yielded]; done)))
      | (go_at_call 23; (with_reducible refine (hmay _ (hW.below hO.below)).mono ?_); rintro e w1 ⟨rfl, hb1⟩; replace hO := hO.grow hb1)
      | (go_at_call 34; (with_reducible refine (htm _).mono ?_); rintro e w1 ⟨rfl, hb1⟩; replace hO := hO.grow hb1)
      | ((with_reducible refine own_row1 (#[.int .i64 0, .int .i64 0, .int .i64 0, .int .i64 0, .slice none 0 0]) hO rfl _ _ rfl rfl rfl (by kernel_rfl) rfl ?_ ?_); (· first | rfl | (simp [Value.oneCell']; done)); intro wR hOR hszR hkR; replace hO := hOR; clear hOR)
      )
    exact bodyPost_ret (results_cttt Try.results21 _ _ _ _ _ _ _ _ rfl rfl rfl rfl hO.b1 Try.underlying25 rfl (by kernel_rfl)) rfl ⟨_, _, rfl, ⟨_, rfl, IsWaits.nil _⟩, IsParts.nil _, hO.below⟩
theorem anyK_succ {ws : List Wt} {p : Wt → Bool} {k : Nat} {x : Wt} (h : ws[k]? = some x) : (ws.take (k + 1)).any p = ((ws.take k).any p || p x) := by
  obtain ⟨hl, rfl⟩ := List.getElem?_eq_some_iff.1 h
  rw [List.take_succ_eq_append_getElem hl, List.any_append]
  simp
theorem tickK_succ {ws : List Wt} {t per : Int} {k : Nat} {x : Wt} (h : ws[k]? = some x) : (ws.take (k + 1)).map (tick1 t per) = (ws.take k).map (tick1 t per) ++ [tick1 t per x] := by
  obtain ⟨hl, rfl⟩ := List.getElem?_eq_some_iff.1 h
  rw [List.take_succ_eq_append_getElem hl, List.map_append]
  rfl
theorem Own.cell3 {w W : World} {L : List Bk} {x0 x1 x2 : Bk} {g : Nat} {t : TypeId} {cs : Array Value} (h : Own w W (x0 :: x1 :: x2 :: (g, t, cs) :: L)) (i : Nat) (v : Value) : Own w (W.setCell ⟨g, i, none⟩ v) (x0 :: x1 :: x2 :: (g, t, cs.setIfInBounds i v) :: L) :=
  Own.with (L1 := [x0, x1, x2]) h (h.below.setCell (p := ⟨g, i, none⟩) (Own.lo (L1 := [x0, x1, x2]) h) v) (h.b3.set_ i v) (fun k hk => Below.heap_setCell W ⟨g, i, none⟩ v k hk)
set_option maxRecDepth 100000 in
set_option maxHeartbeats 8000000 in
theorem rltick_ok (l : Lk) (A : Option Addr) (n c : Nat) (xs : List (Wt × Value)) (t : Int) (w : World) (hx : xs.map (·.1) = l.waits) (hn : l.waits.length = n) (hW : WaitsAt w A xs) (hc : n ≤ 9223372036854775807) (hcap : n ≤ c ∧ c ≤ maxLen) (he : heardE l t = 0) :
    Calls Try.prog 21 #[.agg #[.int .i64 l.period, .int .i64 l.most, .int .i64 l.quiet, .int .i64 l.heard, .slice A n c], .int .i64 t] w (RetRT (tickL l t) (tickO l t) (tickB l t) 0 w) := by
  have POSTL : lostL l t = true → ∀ u e w', e = .returned (.tuple #[.agg #[.int .i64 l.period, .int .i64 l.most, .int .i64 l.quiet, .int .i64 l.heard, u], .slice none 0 0, .bool true, .int .i64 0]) → IsWaits l.waits u w' → Below w.heap.size w w' → RetRT (tickL l t) (tickO l t) (tickB l t) 0 w e w' := by
    intro hl u e w' he' hu hb
    unfold tickL tickO tickB
    rw [if_pos he, if_pos he, if_pos he, hl]
    exact ⟨_, _, he', ⟨u, rfl, hu⟩, IsParts.nil _, hb⟩
  have POSTG : lostL l t = false → ∀ u o e w', e = .returned (.tuple #[.agg #[.int .i64 l.period, .int .i64 l.most, .int .i64 l.quiet, .int .i64 l.heard, u], o, .bool false, .int .i64 0]) → IsWaits (l.waits.map (tick1 t l.period)) u w' → IsParts (againW l.waits t) o w' → Below w.heap.size w w' → RetRT (tickL l t) (tickO l t) (tickB l t) 0 w e w' := by
    intro hl u o e w' he' hu ho hb
    unfold tickL tickO tickB
    rw [if_pos he, if_pos he, if_pos he, hl]
    exact ⟨_, _, he', ⟨u, rfl, hu⟩, ho, hb⟩
  generalize RetRT (tickL l t) (tickO l t) (tickB l t) 0 w = PP at *
  have hmay := fun W (h : WaitsAt W A xs) => rlmay_k l A n c xs W hx hn h hc
  have htm := fun W => rtime11_k t W
  have hO : Own w _ [_, _] := Own.start2 w 25 25 #[.int .i64 l.period, .int .i64 l.most, .int .i64 l.quiet, .int .i64 l.heard, .slice A n c] #[.int .i64 0, .int .i64 0, .int .i64 0, .int .i64 0, .slice none 0 0]
  have hcl := hO.b0.cell
  have hm : mayL l = true ∧ isTime t = true := by
    unfold heardE at he
    cases h1 : mayL l <;> cases h2 : isTime t <;> simp [h1, h2] at he ⊢
  obtain ⟨hm, ht⟩ := hm
  obtain ⟨h11, h12, h31, h32, h21, h22, ⟨h41, h42⟩, hlen⟩ := mayL_head hm
  have hbdb := mayL_bounds hm
  obtain ⟨ht1, ht2⟩ := isTime_iff.1 ht
  have hIW : IsWaits l.waits (.slice A n c) w := ⟨A, c, xs, by rw [hn], hx, hW, by rw [hn]; exact hcap.1, hcap.2⟩
  rw [hn] at hlen
  rw [hm] at hmay
  rw [ht] at htm
  unfold lostL at POSTL POSTG
  clear hm ht he hcap
  obtain ⟨ws, hws⟩ : ∃ ws, ws = l.waits := ⟨_, rfl⟩
  rw [← hws] at hx hn POSTL POSTG hIW hbdb
  clear hws
  generalize l.period = x1 at *
  generalize l.most = x2 at *
  generalize l.quiet = x3 at *
  generalize l.heard = x4 at *
  have HN := Lib.hid hn
  have HX := Lib.hid hx
  have HBD := Lib.hid hbdb
  clear hn hx hbdb
  go_enter Try.func21, Try.ntmps21
  go_wp2_with (first
    | ((with_reducible refine own_loadg0 hO ?_ _ rfl rfl _ Try.underlying25 rfl (by kernel_rfl) ?_); (· first | rfl | (simp [Region.wanted, yielded]; done)))
    | (go_at_call 23; (with_reducible refine (hmay _ (hW.below hO.below)).mono ?_); rintro e w1 ⟨rfl, hb1⟩; replace hO := hO.grow hb1; clear hcl)
    | (go_at_call 34; (with_reducible refine (htm _).mono ?_); rintro e w1 ⟨rfl, hb1⟩; replace hO := hO.grow hb1; have hcl := hO.b0.cell)
    )
  clear hmay htm hcl
  go_loopw [11, 10] (fun i f wr => ∃ k : Nat, k ≤ n ∧ i = .int .i64 k ∧ f = .bool (decide (x4 + x3 < t) || (ws.take k).any (spentP t x2)) ∧ Own w wr [(w.heap.size, 25, #[.int .i64 x1, .int .i64 x2, .int .i64 x3, .int .i64 x4, .slice A n c]), (w.heap.size + 1, 25, #[.int .i64 0, .int .i64 0, .int .i64 0, .int .i64 0, .slice none 0 0])]) (fun i _ _ => n - (intOf i).toNat)
  case atStart => exact ⟨0, Nat.zero_le _, rfl, by simp, hO⟩
  case round =>
    clear hO
    obtain ⟨k, hk, rfl, rfl, hO⟩ := hrel
    have hcl := hO.b0.cell
    by_cases hlt : k < n
    · obtain ⟨x, Ab, cb, b, off, hwk, hxk, rfl, hbl, hc0, hc1, hc2, hc3, hB⟩ := hW.get (k := k) HX.out (by have h1 := HN.out; omega)
      have hc1r := (hO.below.cell (p := ⟨b, off + k * 4 + 1, none⟩) hbl).trans hc1
      have hc2r := (hO.below.cell (p := ⟨b, off + k * 4 + 2, none⟩) hbl).trans hc2
      have HA := Lib.hid (anyK_succ (p := spentP t x2) hwk)
      clear hxk hB hc0 hc1 hc2 hc3 hwk
      generalize hf0 : (decide (x4 + x3 < t) || (ws.take k).any (spentP t x2)) = f0 at *
      have HF0 := Lib.hid hf0
      clear hf0
      have hsp : spentP t x2 x = (decide (x.due ≤ t) && decide (x.tries = x2)) := rfl
      have lvl : (f0 = true) ∨ (f0 = false ∧ decide (x.due ≤ t) = false) ∨ (f0 = false ∧ decide (x.due ≤ t) = true ∧ decide (x.tries = x2) = false ∧ (x.tries == x2) = false) ∨ (f0 = false ∧ decide (x.due ≤ t) = true ∧ decide (x.tries = x2) = true ∧ (x.tries == x2) = true) := by
        cases f0 <;> simp
        by_cases h1 : x.due ≤ t <;> by_cases h2 : x.tries = x2 <;> simp [h1, h2]
        all_goals omega
      have HSP := Lib.hid hsp
      clear hsp
      rcases lvl with rfl | ⟨rfl, g1⟩ | ⟨rfl, g1, g2, g3⟩ | ⟨rfl, g1, g2, g3⟩
      all_goals
        first
        | have HR := Lib.hid (show (decide (x4 + x3 < t) || (ws.take (k + 1)).any (spentP t x2)) = true by rw [HA.out, ← Bool.or_assoc, HF0.out]; rfl)
        | have HR := Lib.hid (show (decide (x4 + x3 < t) || (ws.take (k + 1)).any (spentP t x2)) = false by rw [HA.out, ← Bool.or_assoc, HF0.out, HSP.out, g1]; rfl)
        | have HR := Lib.hid (show (decide (x4 + x3 < t) || (ws.take (k + 1)).any (spentP t x2)) = false by rw [HA.out, ← Bool.or_assoc, HF0.out, HSP.out, g1, g2]; rfl)
        | have HR := Lib.hid (show (decide (x4 + x3 < t) || (ws.take (k + 1)).any (spentP t x2)) = true by rw [HA.out, ← Bool.or_assoc, HF0.out, HSP.out, g1, g2]; rfl)
        clear HF0 HA HSP
        go_wp2_with fail
        go_quiet (fail)
        go_wp2_with fail
        go_roundw
        case rel => exact ⟨k + 1, by omega, by go_num, by rw [HR.out], hO.grow (below_drewN (Below.refl _ _) _)⟩
        case measure => simp [intOf]; omega
    · obtain rfl : k = n := by omega
      rw [List.take_of_length_le (by have := HN.out; omega)]
      generalize hf0 : (decide (x4 + x3 < t) || ws.any (spentP t x2)) = f0 at *
      have HF0 := Lib.hid hf0
      clear hf0
      cases f0 with
      | true =>
        replace POSTL := POSTL rfl
        clear POSTG
        go_wp2_with (first
          | ((with_reducible refine own_loadg0 hO ?_ _ rfl rfl _ Try.underlying25 rfl (by kernel_rfl) ?_); (· first | rfl | (simp [Region.wanted, yielded]; done)))
          | ((with_reducible refine own_row1 (#[.int .i64 x1, .int .i64 x2, .int .i64 x3, .int .i64 x4, .slice A k c]) hO rfl _ _ rfl rfl rfl (by kernel_rfl) rfl ?_ ?_); (· first | rfl | (simp [Value.oneCell']; done)); intro wR hOR hszR hkR; replace hO := hOR; clear hOR)
          )
        exact bodyPost_ret (results_cttt Try.results21 _ _ _ _ _ _ _ _ rfl rfl rfl rfl hO.b1 Try.underlying25 rfl (by kernel_rfl)) rfl (POSTL _ _ _ rfl (hIW.grow hO.below) hO.below)
      | false =>
        replace POSTG := POSTG rfl
        clear POSTL hIW
        have hg7 := hO.b1.lt
        go_wp2_with (first
          | ((with_reducible refine own_loadg0 hO ?_ _ rfl rfl _ Try.underlying25 rfl (by kernel_rfl) ?_); (· first | rfl | (simp [Region.wanted, yielded]; done)))
          | ((with_reducible refine own_row2 #[.int .i64 x1, .int .i64 x2, .int .i64 x3, .int .i64 x4, .slice A k c] (hO.new2 25 #[.int .i64 0, .int .i64 0, .int .i64 0, .int .i64 0, .slice none 0 0]) rfl _ _ rfl rfl rfl (by kernel_rfl) rfl ?_ ?_); (· (simp [Value.oneCell']; done)); intro wR hOR hszR hkR; replace hO := hOR; clear hOR hszR hkR hcl; have hcl2 := hO.b2.cell)
          | ((with_reducible refine own_cell2 4 (.slice none 0 0) hO rfl 23 _ _ rfl rfl rfl (by kernel_rfl) ?_ rfl ?_); (· (simp; done)); intro wR hOR hszR hkR; replace hO := hOR; clear hOR hszR hkR hcl2)
          )
        rename World => wS
        generalize wr.heap.size = g7 at *
        clear hlt
        go_loopw [14, 13] (fun i o wr => ∃ (kk m : Nat) (A3 : Option Addr) (c3 : Nat) (zs : List (Wt × Value)), kk ≤ k ∧ kk = m ∧ i = .int .i64 kk ∧ zs.length = m ∧ zs.map (·.1) = (ws.take kk).map (tick1 t x1) ∧ OwnW wr (g7 + 1) A3 c3 zs ∧ (∀ p ∈ zs, IsBytes p.1.body p.2 w) ∧ PartsW w wr (g7 + 1) o (againW (ws.take kk) t) ∧ Own w wr [(w.heap.size, 25, #[.int .i64 x1, .int .i64 x2, .int .i64 x3, .int .i64 x4, .slice A k c]), (w.heap.size + 1, 25, #[.int .i64 0, .int .i64 0, .int .i64 0, .int .i64 0, .slice none 0 0]), (g7, 25, #[.int .i64 x1, .int .i64 x2, .int .i64 x3, .int .i64 x4, .slice A3 m c3])]) (fun i _ _ => k - (intOf i).toNat)
        case atStart => exact ⟨0, 0, none, 0, [], Nat.zero_le _, rfl, rfl, rfl, rfl, OwnW.nil _ _, fun p hp => absurd hp List.not_mem_nil, PartsW.nil _ _ _, hO⟩
        case round =>
          clear hO
          obtain ⟨q, m, A3, c3, zs, hq, rfl, rfl, hzl, hzs, hOw, hbd, hP, hO⟩ := hrel
          have HZ := Lib.hid hzs
          have HZL := Lib.hid hzl
          clear hzs hzl
          have hcl := hO.b0.cell
          have hcl2 := hO.b2.cell
          by_cases hlt : q < k
          · obtain ⟨x, Ab, cb, b, off, hwk, hxk, rfl, hbl, hc0, hc1, hc2, hc3, hB⟩ := hW.get (k := q) HX.out (by have h1 := HN.out; omega)
            replace hc0 := (hO.below.cell (p := ⟨b, off + q * 4, none⟩) hbl).trans hc0
            replace hc1 := (hO.below.cell (p := ⟨b, off + q * 4 + 1, none⟩) hbl).trans hc1
            replace hc2 := (hO.below.cell (p := ⟨b, off + q * 4 + 2, none⟩) hbl).trans hc2
            replace hc3 := (hO.below.cell (p := ⟨b, off + q * 4 + 3, none⟩) hbl).trans hc3
            have hbx := hW.body _ (List.mem_of_getElem? hxk)
            have HBX := Lib.hid hbx
            have HS := Lib.hid (tickK_succ (t := t) (per := x1) hwk)
            have HG := Lib.hid (againW_succ (now := t) hwk)
            obtain ⟨hq1, hq2, hq3, hq4⟩ := HBD.out x (List.mem_of_getElem? hwk)
            have hal : (againW (ws.take q) t).length ≤ 60000 := by
              have h1 := againW_len (ws.take q) t
              have h2 : (ws.take q).length ≤ q := List.length_take_le _ _
              omega
            clear hwk hxk hbx hB
            by_cases hdue : x.due ≤ t
            · have hdd : decide (x.due ≤ t) = true := by simpa using hdue
              have HS2 := Lib.hid (HS.out.trans (by unfold tick1; rw [if_pos hdue]))
              have HG2 := Lib.hid (HG.out.trans (by rw [if_pos hdue]))
              clear hdue HS HG
              have hRx : ∀ g, rowOf A3 = some g → w.heap.size ≤ g ∧ ∀ y ∈ [((w.heap.size, 25, #[.int .i64 x1, .int .i64 x2, .int .i64 x3, .int .i64 x4, .slice (some ⟨b, off, none⟩) k c]) : Bk), (w.heap.size + 1, 25, #[.int .i64 0, .int .i64 0, .int .i64 0, .int .i64 0, .slice none 0 0]), (g7, 25, #[.int .i64 x1, .int .i64 x2, .int .i64 x3, .int .i64 x4, .slice A3 q c3]), (wr.heap.size, 35, #[.int .i64 x.t, .int .i64 (t + x1), .int .i64 (x.tries + 1), .slice Ab x.body.length cb])], y.1 ≠ g := fun g hg => by
                have h1 := (hOw.row_ge g hg).1
                have h2 := (hOw.row_ge g hg).2
                exact ⟨by omega, fun y hy => by simp at hy; rcases hy with rfl | rfl | rfl | rfl <;> simp <;> omega⟩
              go_wp2_with (first
                | ((with_reducible refine own_row0 #[.int .i64 x.t, .int .i64 x.due, .int .i64 x.tries, .slice Ab x.body.length cb] ((Own.nil wr).new0 35 #[.int .i64 0, .int .i64 0, .int .i64 0, .slice none 0 0]) rfl _ _ rfl rfl rfl (by kernel_rfl) rfl ?_ ?_); (· (simp [Value.oneCell']; done)); intro wR hOR hszR hkR; have hN := hOR; clear hOR hszR hkR hcl hcl2 hc0 hc1 hc2 hc3; have hcl3 := hN.b0.cell; have hcl := (hO.grow hN.below).b0.cell)
                | ((with_reducible refine own_cell0 2 (.int .i64 (x.tries + 1)) hN rfl 3 _ _ rfl rfl rfl (by kernel_rfl) ?_ rfl ?_); (· (simp; done)); intro wR hOR hszR hkR; replace hN : Own wr wR [(wr.heap.size, 35, #[.int .i64 x.t, .int .i64 x.due, .int .i64 (x.tries + 1), .slice Ab x.body.length cb])] := hOR; clear hOR hszR hkR hcl3 hcl; have hcl3 := hN.b0.cell; have hcl := (hO.grow hN.below).b0.cell)
                | ((with_reducible refine own_cell0 1 (.int .i64 (t + x1)) hN rfl 3 _ _ rfl rfl rfl (by kernel_rfl) ?_ rfl ?_); (· (simp; done)); intro wR hOR hszR hkR; replace hN : Own wr wR [(wr.heap.size, 35, #[.int .i64 x.t, .int .i64 (t + x1), .int .i64 (x.tries + 1), .slice Ab x.body.length cb])] := hOR; clear hOR hszR hkR hcl3 hcl; have hcl3 := hN.b0.cell; have hcl := (hO.grow hN.below).b0.cell)
                | (at_builtin; refine wpList_app_partW rfl _ _ rfl (g7 + 1) u13 (againW (ws.take q) t) rfl ((hP.below hN.below).below ((Below.refl _ _).alloc (Nat.le_refl _) _)) wR.heap.size x.body (.slice Ab x.body.length cb) rfl (Blk.new wR 33 #[.slice Ab x.body.length cb]) HBX.out hal (by have := hN.b0.lt; have := hO.b2.lt; simp; omega) ?_; intro v6 w6 hP6 hg6; replace hOw := ((hOw.below hN.below).alloc (.cells #[.slice Ab x.body.length cb] 33)).grownOff hg6 (fun g hg e => rows_apart (hOw.below hN.below) (hP.below hN.below) g hg e); replace hO := ((Own.add hO hN).grow ((Below.refl _ _).alloc (Nat.le_refl _) (.cells #[.slice Ab x.body.length cb] 33))).grownBy hg6 (fun g hg => by
                    have h1 := (hP.row_ge g hg).1
                    have h2 := (hP.row_ge g hg).2
                    exact ⟨by omega, fun y hy => by simp at hy; rcases hy with rfl | rfl | rfl | rfl <;> simp <;> omega⟩); clear hP hcl hcl3 hN; have hP := hP6; have hcl := hO.b0.cell; have hcl2 := hO.b2.cell; have hcl3 := hO.b3.cell)
                | ((with_reducible refine own_loadg3 hO ?_ _ rfl rfl _ Try.underlying35 rfl (by kernel_rfl) ?_); (· first | rfl | (simp [Region.wanted, yielded]; done)))
                | (at_builtin; refine wpList_app_waits rfl _ _ rfl (g7 + 1) A3 c3 zs q rfl HZL.out.symm (hOw.alloc _) (some ⟨(w6).heap.size, 0, none⟩) 1 [(bump t x1 x, .slice Ab x.body.length cb)] 1 rfl rfl (Row.block (Blk.new (w6) 35 #[.int .i64 x.t, .int .i64 (t + x1), .int .i64 (x.tries + 1), .slice Ab x.body.length cb])) (fun p hp => by simp at hp; subst hp; rfl) (by have := HZL.out; simp; omega) (by have := hO.b3.lt; have := hO.b2.lt; simp; omega) ?_; intro A5 c5 W5 hOw5 hg5 hb5; replace hP := (hP.below ((Below.refl _ _).alloc (Nat.le_refl _) _)).off hg5 (fun g hg e => rows_apart (hOw.alloc (.cells #[.int .i64 x.t, .int .i64 (t + x1), .int .i64 (x.tries + 1), .slice Ab x.body.length cb] 35)) (hP.below ((Below.refl _ _).alloc (Nat.le_refl _) _)) g e hg); replace hO := (hO.grow ((Below.refl _ _).alloc (Nat.le_refl _) _)).grownBy hg5 hRx; clear hOw hRx hcl hcl2 hcl3; have hcl5 := hO.b2.cell)
                | ((with_reducible refine own_cell2 4 (.slice A5 (q + 1) c5) hO rfl 23 _ _ rfl rfl rfl (by kernel_rfl) ?_ rfl ?_); (· (simp; done)); intro wR hOR hszR hkR; replace hOw5 := hOw5.far (g := g7) (by omega) hkR; replace hP := hP.far (g := g7) (by omega) hkR; replace hO := hOR; clear hOR hszR hkR hcl5))
              go_roundw
              case rel => exact ⟨q + 1, q + 1, A5, c5, _, by omega, by omega, by go_num, by rw [List.length_append, HZL.out]; rfl, by rw [List.map_append, HZ.out]; exact HS2.out.symm, hOw5, fun p hp => by
                rcases List.mem_append.1 hp with h | h
                · exact hbd p h
                · simp at h; subst h; exact HBX.out, by rw [HG2.out]; exact hP, ⟨hO.below, fun z hz => hO.blk z (by simp at hz; rcases hz with rfl | rfl | rfl <;> simp), by have := hO.nodup; simp at this ⊢; omega⟩⟩
              case measure => simp [intOf]; omega
            · have hdd : decide (x.due ≤ t) = false := by simpa using hdue
              have HS2 := Lib.hid (HS.out.trans (by unfold tick1; rw [if_neg hdue]))
              have HG2 := Lib.hid (HG.out.trans (by rw [if_neg hdue, List.append_nil]))
              clear hdue HS HG
              have hRx : ∀ g, rowOf A3 = some g → w.heap.size ≤ g ∧ ∀ y ∈ [((w.heap.size, 25, #[.int .i64 x1, .int .i64 x2, .int .i64 x3, .int .i64 x4, .slice (some ⟨b, off, none⟩) k c]) : Bk), (w.heap.size + 1, 25, #[.int .i64 0, .int .i64 0, .int .i64 0, .int .i64 0, .slice none 0 0]), (g7, 25, #[.int .i64 x1, .int .i64 x2, .int .i64 x3, .int .i64 x4, .slice A3 q c3]), (wr.heap.size, 35, #[.int .i64 x.t, .int .i64 x.due, .int .i64 x.tries, .slice Ab x.body.length cb])], y.1 ≠ g := fun g hg => by
                have h1 := (hOw.row_ge g hg).1
                have h2 := (hOw.row_ge g hg).2
                exact ⟨by omega, fun y hy => by simp at hy; rcases hy with rfl | rfl | rfl | rfl <;> simp <;> omega⟩
              go_wp2_with (first
                | ((with_reducible refine own_row0 #[.int .i64 x.t, .int .i64 x.due, .int .i64 x.tries, .slice Ab x.body.length cb] ((Own.nil wr).new0 35 #[.int .i64 0, .int .i64 0, .int .i64 0, .slice none 0 0]) rfl _ _ rfl rfl rfl (by kernel_rfl) rfl ?_ ?_); (· (simp [Value.oneCell']; done)); intro wR hOR hszR hkR; replace hOw := hOw.below hOR.below; replace hP := hP.below hOR.below; replace hO := Own.add hO hOR; clear hOR hszR hkR hcl hcl2 hc0 hc1 hc2 hc3; have hcl := hO.b0.cell; have hcl2 := hO.b2.cell; have hcl3 := hO.b3.cell)
                | ((with_reducible refine own_loadg3 hO ?_ _ rfl rfl _ Try.underlying35 rfl (by kernel_rfl) ?_); (· first | rfl | (simp [Region.wanted, yielded]; done)))
                | (at_builtin; refine wpList_app_waits rfl _ _ rfl (g7 + 1) A3 c3 zs q rfl HZL.out.symm (hOw.alloc _) (some ⟨(wR).heap.size, 0, none⟩) 1 [(x, .slice Ab x.body.length cb)] 1 rfl rfl (Row.block (Blk.new (wR) 35 #[.int .i64 x.t, .int .i64 x.due, .int .i64 x.tries, .slice Ab x.body.length cb])) (fun p hp => by simp at hp; subst hp; rfl) (by have := HZL.out; simp; omega) (by have := hO.b3.lt; have := hO.b2.lt; simp; omega) ?_; intro A5 c5 W5 hOw5 hg5 hb5; replace hP := (hP.below ((Below.refl _ _).alloc (Nat.le_refl _) _)).off hg5 (fun g hg e => rows_apart (hOw.alloc (.cells #[.int .i64 x.t, .int .i64 x.due, .int .i64 x.tries, .slice Ab x.body.length cb] 35)) (hP.below ((Below.refl _ _).alloc (Nat.le_refl _) _)) g e hg); replace hO := (hO.grow ((Below.refl _ _).alloc (Nat.le_refl _) _)).grownBy hg5 hRx; clear hOw hRx hcl hcl2 hcl3; have hcl5 := hO.b2.cell)
                | ((with_reducible refine own_cell2 4 (.slice A5 (q + 1) c5) hO rfl 23 _ _ rfl rfl rfl (by kernel_rfl) ?_ rfl ?_); (· (simp; done)); intro wR hOR hszR hkR; replace hOw5 := hOw5.far (g := g7) (by omega) hkR; replace hP := hP.far (g := g7) (by omega) hkR; replace hO := hOR; clear hOR hszR hkR hcl5))
              go_roundw
              case rel => exact ⟨q + 1, q + 1, A5, c5, _, by omega, by omega, by go_num, by rw [List.length_append, HZL.out]; rfl, by rw [List.map_append, HZ.out]; exact HS2.out.symm, hOw5, fun p hp => by
                rcases List.mem_append.1 hp with h | h
                · exact hbd p h
                · simp at h; subst h; exact HBX.out, by rw [HG2.out]; exact hP, ⟨hO.below, fun z hz => hO.blk z (by simp at hz; rcases hz with rfl | rfl | rfl <;> simp), by have := hO.nodup; simp at this ⊢; omega⟩⟩
              case measure => simp [intOf]; omega
          · obtain rfl : q = k := by omega
            clear hcl2
            rw [List.take_of_length_le (by have := HN.out; omega)] at hP
            go_wp2_with (first
              | ((with_reducible refine own_loadg2 hO ?_ _ rfl rfl _ Try.underlying25 rfl (by kernel_rfl) ?_); (· first | rfl | (simp [Region.wanted, yielded]; done)))
              | ((with_reducible refine own_row1 #[.int .i64 x1, .int .i64 x2, .int .i64 x3, .int .i64 x4, .slice A3 q c3] hO rfl _ _ rfl rfl rfl (by kernel_rfl) rfl ?_ ?_); (· (simp [Value.oneCell']; done)); intro wR hOR hszR hkR; replace hOw := hOw.far (g := w.heap.size + 1) (by omega) hkR; replace hP := hP.far (g := w.heap.size + 1) (by omega) hkR; replace hO := hOR; clear hOR hszR hkR))
            exact bodyPost_ret (results_cttt Try.results21 _ _ _ _ _ _ _ _ rfl rfl rfl rfl hO.b1 Try.underlying25 rfl (by kernel_rfl)) rfl (POSTG _ _ _ _ rfl (OwnV.is ⟨hOw, fun p hp => (hbd p hp).grow hO.below⟩ (by rw [HZ.out, List.take_of_length_le (by have := HN.out; omega)]) (by rw [List.length_map]; exact HN.out)) (hP.is hO.below) hO.below)
theorem rltick_k (l : Lk) (A : Option Addr) (n c : Nat) (xs : List (Wt × Value)) (t : Int) (w : World) (hx : xs.map (·.1) = l.waits) (hn : l.waits.length = n) (hW : WaitsAt w A xs) (hc : n ≤ 9223372036854775807) (hcap : n ≤ c ∧ c ≤ maxLen) :
    Calls Try.prog 21 #[.agg #[.int .i64 l.period, .int .i64 l.most, .int .i64 l.quiet, .int .i64 l.heard, .slice A n c], .int .i64 t] w (RetRT (tickL l t) (tickO l t) (tickB l t) (heardE l t) w) := by
  by_cases he : heardE l t = 0
  · rw [he]
    exact rltick_ok l A n c xs t w hx hn hW hc hcap he
  · unfold tickL tickO tickB
    rw [if_neg he, if_neg he, if_neg he]
    have e1 : heardE l t = 1 := by unfold heardE at he ⊢; split <;> simp_all
    rw [e1]
    exact rltick_bad l A n c xs t w hx hn hW hc he
end Go.Proofs.Ytiloammjejggjaa
