/- Lists of bytes in a row of the call's own; what a tick makes of messages. -/
import Derived.Test.YtiloammjejggjaaLinkSent
import Derived.Test.YtiloammjejggjaaLinkSpent
set_option linter.unusedSimpArgs false
set_option linter.unusedVariables false
namespace Go.Proofs.Ytiloammjejggjaa
open Go.RowKit

/-- Bytes in a block of bytes. -/
def IsBytesT (bs : List UInt8) (v : Value) (w : World) : Prop := ∃ A c, v = .slice A bs.length c ∧ Bytes w A c bs ∧ ∀ g, rowOf A = some g → ∃ cs, w.heap[g]? = some (.cells cs 5 (0, 0))
theorem IsBytesT.is {bs : List UInt8} {v : Value} {w : World} (h : IsBytesT bs v w) : IsBytes bs v w := by
  obtain ⟨A, c, e, hB, _⟩ := h
  exact ⟨A, c, e, hB⟩
theorem IsBytesT.own {w : World} {base : Nat} {A : Option Addr} {c n : Nat} {bs : List UInt8} (h : OwnB w base A c bs) (hn : bs.length = n) : IsBytesT bs (.slice A n c) w := by
  refine ⟨A, c, by rw [hn], h.bytes, fun g hg => ?_⟩
  rcases h.2 with ⟨e, _⟩ | ⟨k, cap, cur, e, _, hk, _⟩
  · simp only [Value.slice.injEq] at e
    obtain ⟨rfl, _⟩ := e
    cases hg
  · simp only [Value.slice.injEq] at e
    obtain ⟨rfl, _⟩ := e
    simp [rowOf] at hg
    subst hg
    exact ⟨_, hk⟩
theorem IsBytesT.grown {bs : List UInt8} {v : Value} {w w' : World} {R : Option Nat} (h : IsBytesT bs v w) (hg : w.grownBy w' R) (hR : ∀ g, R = some g → ∃ cs t fr, w.heap[g]? = some (.cells cs t fr) ∧ t ≠ 5) : IsBytesT bs v w' := by
  obtain ⟨A, c, e, hB, ht⟩ := h
  have hne : ∀ g, rowOf A = some g → R ≠ some g := by
    rintro g hA rfl
    obtain ⟨cs, h1⟩ := ht g hA
    obtain ⟨cs', t, fr, h2, h3⟩ := hR g rfl
    rw [h1] at h2
    simp at h2
    exact h3 h2.2.1.symm
  refine ⟨A, c, e, hB.grownOff (fun hs hA => ?_) hg, fun g hA => ?_⟩
  · obtain ⟨g, hg'⟩ := Option.isSome_iff_exists.1 hs
    exact hne g (hA.trans hg') hg'
  · obtain ⟨cs, h1⟩ := ht g hA
    have hlt : g < w.heap.size := by
      rcases Nat.lt_or_ge g w.heap.size with h | h
      · exact h
      · rw [Array.getElem?_eq_none h] at h1; cases h1
    exact ⟨cs, (hg.block g hlt (fun e => hne g hA e.symm)).trans h1⟩
theorem IsBytesT.grow {bs : List UInt8} {v : Value} {w w' : World} (h : IsBytesT bs v w) (hb : Below w.heap.size w w') : IsBytesT bs v w' := h.grown (grown_of_below hb none) (fun g hg => by cases hg)
/-- A value that is a slice of these lists of bytes. -/
def IsParts (bss : List (List UInt8)) : Value → World → Prop := fun v w => ∃ A c vs, v = .slice A bss.length c ∧ Row w A vs ∧ vs.length = bss.length ∧ (∀ (i : Nat) b u, bss[i]? = some b → vs[i]? = some u → IsBytes b u w) ∧ bss.length ≤ c ∧ c ≤ maxLen
theorem IsParts.grow {bss : List (List UInt8)} {v : Value} {w w' : World} (h : IsParts bss v w) (hb : Below w.heap.size w w') : IsParts bss v w' := by
  obtain ⟨A, c, vs, e, hr, hl, hB, h1, h2⟩ := h
  exact ⟨A, c, vs, e, hr.below hb, hl, fun i b u hi hu => (hB i b u hi hu).grow hb, h1, h2⟩
theorem IsParts.nil (w : World) : IsParts [] (.slice none 0 0) w := ⟨none, 0, [], rfl, Row.nil w none, rfl, fun i b u h => by simp at h, Nat.le_refl _, Nat.zero_le _⟩
/-- The same in a row of the call's own, each of them in a block of bytes. -/
def PartsT (w : World) (base : Nat) (v : Value) (bss : List (List UInt8)) : Prop := ∃ vs, w.ownsRow base 33 1 v bss.length vs ∧ ∀ (i : Nat) b u, bss[i]? = some b → vs[i]? = some u → IsBytesT b u w
theorem PartsT.nil (w : World) (base : Nat) : PartsT w base (.slice none 0 0) [] := ⟨[], World.ownsRow_nil w base _ 1, fun i b u h => by simp at h⟩
theorem PartsT.is {w : World} {base : Nat} {v : Value} {bss : List (List UInt8)} (h : PartsT w base v bss) : IsParts bss v w := by
  obtain ⟨vs, ho, hB⟩ := h
  have hl : vs.length = bss.length := by have := ho.1; omega
  rcases ho.2 with ⟨rfl, h0⟩ | ⟨g, cap, cur, rfl, h1, h2, h3, h4, h5, h6⟩
  · have : bss = [] := List.eq_nil_of_length_eq_zero h0
    subst this
    exact IsParts.nil w
  · exact ⟨_, cap, vs, rfl, Row.own ho, hl, fun i b u hi hu => (hB i b u hi hu).is, h3, h4⟩
theorem PartsT.grown {w w' : World} {base : Nat} {v : Value} {bss : List (List UInt8)} {R : Option Nat} (h : PartsT w base v bss) (hg : w.grownBy w' R) (hR : ∀ g, R = some g → g < base ∧ ∃ cs t fr, w.heap[g]? = some (.cells cs t fr) ∧ t ≠ 5) : PartsT w' base v bss := by
  obtain ⟨vs, ho, hB⟩ := h
  refine ⟨vs, ⟨ho.1, ?_⟩, fun i b u hi hu => (hB i b u hi hu).grown hg fun g hg => (hR g hg).2⟩
  rcases ho.2 with h0 | ⟨g, cap, cur, e, h1, h2, h3⟩
  · exact .inl h0
  · have hlt : g < w.heap.size := by
      rcases Nat.lt_or_ge g w.heap.size with h | h
      · exact h
      · rw [Array.getElem?_eq_none h] at h2; cases h2
    exact .inr ⟨g, cap, cur, e, h1, (hg.block g hlt (fun e => by have := (hR g e.symm).1; omega)).trans h2, h3⟩
theorem PartsT.farT {w w' : World} {base : Nat} {v : Value} {bss : List (List UInt8)} (h : PartsT w base v bss) {g : Nat} {t : TypeId} {cs : Array Value} (hg : Blk w g t cs) (ht : t ≠ 5) (hlt : g < base) (hz : w'.heap.size = w.heap.size) (hk : ∀ k, k ≠ g → w'.heap[k]? = w.heap[k]?) (ho : w'.os = w.os := by first | rfl | assumption) (htp : w'.tape = w.tape := by first | rfl | assumption) (hot : w'.output = w.output := by first | rfl | assumption) : PartsT w' base v bss :=
  h.grown (R := some g) ⟨ho, htp, hot, by omega, fun k _ hn => hk k (fun e => hn (by rw [e]))⟩ (fun q hq => by injection hq with hq; subst hq; exact ⟨hlt, _, _, _, hg, ht⟩)
theorem PartsT.grow {w w' : World} {base : Nat} {v : Value} {bss : List (List UInt8)} (h : PartsT w base v bss) (hb : Below w.heap.size w w') : PartsT w' base v bss := h.grown (grown_of_below hb none) (fun g hg => by cases hg)
theorem PartsT.row_ge {w : World} {base : Nat} {v : Value} {bss : List (List UInt8)} (h : PartsT w base v bss) : ∀ g, v.ownBlock = some g → base ≤ g ∧ g < w.heap.size := by
  obtain ⟨vs, ho, _⟩ := h
  exact World.ownsRow.lt ho
theorem PartsT.mono {w : World} {base base' : Nat} {v : Value} {bss : List (List UInt8)} (h : PartsT w base v bss) (hb : base' ≤ base) : PartsT w base' v bss := by
  obtain ⟨vs, ho, hB⟩ := h
  refine ⟨vs, ⟨ho.1, ?_⟩, hB⟩
  rcases ho.2 with h0 | ⟨g, cap, cur, e, h1, h2⟩
  · exact .inl h0
  · exact .inr ⟨g, cap, cur, e, Nat.le_trans hb h1, h2⟩
/-- A store into a link's box leaves them. -/
theorem PartsT.farL {w w' : World} {base : Nat} {v : Value} {bss : List (List UInt8)} (h : PartsT w base v bss) {g : Nat} {cs : Array Value} (hg : Blk w g 25 cs) (hb : w.grownBy w' (some g)) : PartsT w' base v bss := by
  obtain ⟨vs, ho, hB⟩ := h
  refine ⟨vs, ⟨ho.1, ?_⟩, fun i b u hi hu => (hB i b u hi hu).grown hb fun q hq => by injection hq with hq; subst hq; exact ⟨_, _, _, hg, by decide⟩⟩
  rcases ho.2 with h0 | ⟨k, cap, cur, e, h1, h2, h3⟩
  · exact .inl h0
  · have hlt : k < w.heap.size := by
      rcases Nat.lt_or_ge k w.heap.size with h | h
      · exact h
      · rw [Array.getElem?_eq_none h] at h2; cases h2
    have hne : k ≠ g := fun e => by
      subst e
      unfold Blk at hg
      rw [h2] at hg
      simp at hg
    exact .inr ⟨k, cap, cur, e, h1, (hb.block k hlt (fun e => hne (Option.some.inj e))).trans h2, h3⟩
/-- The same as it is handed back. -/
def IsPartsN (bss : List (List UInt8)) : Value → World → Prop := fun v w => ∃ A c vs, v = .slice A bss.length c ∧ Row w A vs ∧ vs.length = bss.length ∧ (∀ (i : Nat) b u, bss[i]? = some b → vs[i]? = some u → IsBytes b u w) ∧ PartsT w 0 v bss
theorem PartsT.isN {w : World} {base : Nat} {v : Value} {bss : List (List UInt8)} (h : PartsT w base v bss) : IsPartsN bss v w := by
  obtain ⟨A, c, vs, e, h1, h2, h3, _⟩ := h.is
  exact ⟨A, c, vs, e, h1, h2, h3, h.mono (Nat.zero_le _)⟩
theorem IsPartsN.t {w : World} {v : Value} {bss : List (List UInt8)} (h : IsPartsN bss v w) : PartsT w 0 v bss := by
  obtain ⟨A, c, vs, e, h1, h2, h3, h4⟩ := h
  exact h4
theorem IsPartsN.nil (w : World) : IsPartsN [] (.slice none 0 0) w := (PartsT.nil w 0).isN
theorem IsPartsN.grow {bss : List (List UInt8)} {v : Value} {w w' : World} (h : IsPartsN bss v w) (hb : Below w.heap.size w w') : IsPartsN bss v w' := (h.t.grow hb).isN
theorem info_bytes : (Try.prog.info? 33).map (fun i => (i.zero, i.size, i.bytes)) = some (some (.slice none 0 0), 1, 24) := by kernel_rfl
/-- One more of them appended. -/
theorem wpList_app_part {w : World} {ops : Array Oper} {rest : List Oper} {o : Oper} {a : Act} {Q : Exit → Act → World → Prop} (hgd : o.guard = none) (s x : Operand)
    (ho : o.op = .call { callee := .builtin .append, args := #[s, x], argTypes := #[36, 36] })
    (base : Nat) (v : Value) (bss : List (List UInt8)) (hs : a.eval s = v) (hP : PartsT w base v bss)
    (g : Nat) (b : List UInt8) (u : Value) (hx : a.eval x = .slice (some ⟨g, 0, none⟩) 1 1) (hg : Blk w g 33 #[u]) (hu : IsBytesT b u w) (hlen : bss.length ≤ 60000) (hbase : base ≤ w.heap.size)
    (h : ∀ v' W, PartsT W base v' (bss ++ [b]) → w.grownBy W v.ownBlock → wpList Try.prog ops Q rest (a.put o.dst v') W) : wpList Try.prog ops Q (o :: rest) a w := by
  obtain ⟨vs, hown, hB⟩ := hP
  obtain ⟨i0, hi0, hz0, hz1, hz2⟩ := info_parts info_bytes
  have hvl : vs.length = bss.length := by have := hown.1; omega
  have hrd : Reads w w.heap.size 1 (some ⟨g, 0, none⟩) 1 [u] := ⟨rfl, fun _ => ⟨⟨g, 0, none⟩, rfl, hg.lt, fun j y hy => by
    rw [add0, hg.cell]
    simpa using hy⟩⟩
  refine wpList_append_any w hgd s x 36 ho base 33 i0 _ 1 24 Try.underlying36 hi0 hz0 hz1 hz2 rfl (by omega) _ _ _ hs hown w.heap.size (some ⟨g, 0, none⟩) 1 1 [u] hx hrd (by intro y hy; simp at hy; subst hy; exact hu.is.one) (by simp only [maxLen]; omega) (by omega) hbase ?_
  intro v' W h1 h2 h3
  refine h v' W ⟨vs ++ [u], by rw [List.length_append]; exact h1, fun i b' u' hi hu' => ?_⟩ h2
  have hR : ∀ k, v.ownBlock = some k → ∃ cs t fr, w.heap[k]? = some (.cells cs t fr) ∧ t ≠ 5 := by
    intro k hk
    rcases hown.2 with ⟨rfl, _⟩ | ⟨k', cap, cur, rfl, _, hk', _⟩
    · cases hk
    · simp [Value.ownBlock] at hk
      subst hk
      exact ⟨_, _, _, hk', by decide⟩
  rw [List.getElem?_append] at hi hu'
  rw [hvl] at hu'
  by_cases hlt : i < bss.length
  · rw [if_pos hlt] at hi hu'
    exact (hB i b' u' hi hu').grown h2 hR
  · rw [if_neg hlt] at hi hu'
    have hi0 : i - bss.length = 0 := by
      rcases Nat.eq_zero_or_pos (i - bss.length) with h | h
      · exact h
      · rw [List.getElem?_eq_none (by simp; omega)] at hi; cases hi
    rw [hi0] at hi hu'
    simp at hi hu'
    subst hi
    subst hu'
    exact hu.grown h2 hR

/-- What a tick makes of a message. -/
def bump (now per : Int) (x : Wt) : Wt := ⟨x.t, now + per, x.tries + 1, x.body⟩
def tick1 (now per : Int) (x : Wt) : Wt := if x.due ≤ now then bump now per x else x
def againW (ws : List Wt) (now : Int) : List (List UInt8) := (ws.filter fun x => decide (x.due ≤ now)).map (·.body)
def lostL (l : Lk) (now : Int) : Bool := decide (l.heard + l.quiet < now) || l.waits.any (spentP now l.most)
def tickL (l : Lk) (now : Int) : Lk := if heardE l now = 0 then (if lostL l now then l else ⟨l.period, l.most, l.quiet, l.heard, l.waits.map (tick1 now l.period)⟩) else Lk.zero
def tickO (l : Lk) (now : Int) : List (List UInt8) := if heardE l now = 0 then (if lostL l now then [] else againW l.waits now) else []
def tickB (l : Lk) (now : Int) : Bool := if heardE l now = 0 then lostL l now else false
/-- A tick's results. -/
def RetT (l : Lk) (o : List (List UInt8)) (b : Bool) (er : Int) (w : World) (e : Ending) (w' : World) : Prop := ∃ v u, e = .returned (.tuple #[v, u, .bool b, .int .i64 er]) ∧ IsLinkN w.heap.size l v w' ∧ IsPartsN o u w' ∧ Below w.heap.size w w'
theorem tick1_body (now per : Int) (x : Wt) : (tick1 now per x).body = x.body := by unfold tick1 bump; split <;> rfl
/-- The first k ticked. -/
def mixX (now per : Int) (ys : List (Wt × Value)) (k : Nat) : List (Wt × Value) := (ys.take k).map (fun p => (tick1 now per p.1, p.2)) ++ ys.drop k
theorem mixX_zero (now per : Int) (ys : List (Wt × Value)) : mixX now per ys 0 = ys := by simp [mixX]
theorem mixX_length (now per : Int) (ys : List (Wt × Value)) (k : Nat) : (mixX now per ys k).length = ys.length := by simp [mixX]; omega
theorem mixX_at (now per : Int) (ys : List (Wt × Value)) (k : Nat) : (mixX now per ys k)[k]? = ys[k]? := by
  unfold mixX
  by_cases h : k ≤ ys.length
  · rw [List.getElem?_append_right (by simp; omega)]
    simp [List.getElem?_drop, Nat.min_eq_left h]
  · rw [List.getElem?_eq_none (by simp; omega), List.getElem?_eq_none (by omega)]
theorem mixX_succ {now per : Int} {ys : List (Wt × Value)} {k : Nat} {x : Wt} {v : Value} (h : ys[k]? = some (x, v)) : mixX now per ys (k + 1) = (mixX now per ys k).set k (tick1 now per x, v) := by
  obtain ⟨hk, he⟩ := List.getElem?_eq_some_iff.1 h
  unfold mixX
  rw [List.set_append_right _ _ (by simp; omega)]
  have e1 : k - ((ys.take k).map fun p => (tick1 now per p.1, p.2)).length = 0 := by simp; omega
  rw [e1, List.drop_eq_getElem_cons hk, he, List.set_cons_zero, List.take_succ_eq_append_getElem hk, he, List.map_append, List.append_assoc]
  rfl
theorem mixX_same {now per : Int} {ys : List (Wt × Value)} {k : Nat} {x : Wt} {v : Value} (h : ys[k]? = some (x, v)) (hd : ¬ x.due ≤ now) : mixX now per ys (k + 1) = mixX now per ys k := by
  rw [mixX_succ h]
  have : tick1 now per x = x := by unfold tick1; rw [if_neg hd]
  rw [this]
  exact set_same (by rw [mixX_at]; exact h)
theorem mixX_mem {now per : Int} {ys : List (Wt × Value)} {k : Nat} {p : Wt × Value} (h : p ∈ mixX now per ys k) : ∃ q ∈ ys, p.1.body = q.1.body ∧ p.2 = q.2 := by
  unfold mixX at h
  rcases List.mem_append.1 h with h | h
  · rw [List.mem_map] at h
    obtain ⟨q, hq, rfl⟩ := h
    exact ⟨q, List.mem_of_mem_take hq, tick1_body _ _ _, rfl⟩
  · exact ⟨p, List.mem_of_mem_drop h, rfl, rfl⟩
theorem mixX_end {now per : Int} {ys : List (Wt × Value)} {ws : List Wt} (h : ys.map (·.1) = ws) : (mixX now per ys ys.length).map (·.1) = ws.map (tick1 now per) := by
  unfold mixX
  rw [List.take_length, List.drop_length, List.append_nil, ← h, List.map_map, List.map_map]
  rfl
theorem againW_succ {ws : List Wt} {now : Int} {k : Nat} {x : Wt} (h : ws[k]? = some x) : againW (ws.take (k + 1)) now = againW (ws.take k) now ++ (if x.due ≤ now then [x.body] else []) := by
  obtain ⟨hk, rfl⟩ := List.getElem?_eq_some_iff.1 h
  unfold againW
  rw [List.take_succ_eq_append_getElem hk, List.filter_append, List.map_append]
  congr 1
  by_cases hd : ws[k].due ≤ now <;> simp [hd]
theorem againW_len (ws : List Wt) (now : Int) : (againW ws now).length ≤ ws.length := by
  unfold againW
  rw [List.length_map]
  exact List.length_filter_le _ _
theorem flat_set2 {xs : List (Wt × Value)} {k : Nat} {x : Wt} {v : Value} (h : xs[k]? = some (x, v)) (now per : Int) : flat (xs.set k (bump now per x, v)) = ((flat xs).set (k * 4 + 2) (.int .i64 (x.tries + 1))).set (k * 4 + 1) (.int .i64 (now + per)) := by
  induction xs generalizing k with
  | nil => simp at h
  | cons p ys ih =>
    cases k with
    | zero =>
      simp only [List.getElem?_cons_zero, Option.some.injEq] at h
      subst h
      rfl
    | succ k =>
      have e : ∀ j, (k + 1) * 4 + j = (wcell p).length + (k * 4 + j) := by intro j; simp only [wcell, List.length_cons, List.length_nil]; omega
      rw [List.set_cons_succ, flat_cons, flat_cons, ih (k := k) (by simpa using h), e 2, e 1, List.set_append_right _ _ (by omega), List.set_append_right _ _ (by omega)]
      simp
theorem OwnW.grownOff {w w' : World} {base : Nat} {A : Option Addr} {c : Nat} {xs : List (Wt × Value)} {R : Option Nat} (h : OwnW w base A c xs) (hg : w.grownBy w' R) (hR : ∀ g, rowOf A = some g → R ≠ some g) : OwnW w' base A c xs := by
  refine ⟨h.1, ?_⟩
  rcases h.2 with h0 | ⟨g, cap, cur, e, h1, h2, h3⟩
  · exact .inl h0
  · have hA : rowOf A = some g := by simp only [Value.slice.injEq] at e; obtain ⟨rfl, _⟩ := e; rfl
    have hlt : g < w.heap.size := by
      rcases Nat.lt_or_ge g w.heap.size with h | h
      · exact h
      · rw [Array.getElem?_eq_none h] at h2; cases h2
    exact .inr ⟨g, cap, cur, e, h1, (hg.block g hlt (fun e => hR g hA e.symm)).trans h2, h3⟩
theorem grownBy_far {wS a b : World} {R R' : Option Nat} (h : wS.grownBy a R) (k : a.grownBy b R') (hR : ∀ g, R' = some g → wS.heap.size ≤ g) : wS.grownBy b R :=
  ⟨k.os.trans h.os, k.tape.trans h.tape, k.output.trans h.output, Nat.le_trans h.size k.size, fun i hi hn => (k.block i (Nat.lt_of_lt_of_le hi h.size) (fun e => by have := hR i e.symm; omega)).trans (h.block i hi hn)⟩
theorem OwnW.bump_ {w : World} {base c g k : Nat} {xs : List (Wt × Value)} {x : Wt} {v : Value} (h : OwnW w base (some ⟨g, 0, none⟩) c xs) (hk : xs[k]? = some (x, v)) (now per : Int) :
    OwnW ((w.setCell ⟨g, k * 4 + 2, none⟩ (.int .i64 (x.tries + 1))).setCell ⟨g, k * 4 + 1, none⟩ (.int .i64 (now + per))) base (some ⟨g, 0, none⟩) c (xs.set k (bump now per x, v)) := by
  have h1 := (World.ownsRow.stored h (k * 4 + 2) (.int .i64 (x.tries + 1))).1
  have h2 := (World.ownsRow.stored h1 (k * 4 + 1) (.int .i64 (now + per))).1
  unfold OwnW
  rw [List.length_set, flat_set2 hk]
  exact h2
theorem grownBy_cell (w : World) (g i : Nat) (v : Value) : w.grownBy (w.setCell ⟨g, i, none⟩ v) (some g) := ⟨rfl, rfl, rfl, by simp [World.setCell], fun k _ hk => Below.heap_setCell w ⟨g, i, none⟩ v k (fun e => hk (by rw [e]))⟩
end Go.Proofs.Ytiloammjejggjaa
