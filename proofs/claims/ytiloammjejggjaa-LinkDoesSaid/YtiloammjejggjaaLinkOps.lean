/- Calls on a link, one behind the other: how often one body is told. -/
import Derived.Test.YtiloammjejggjaaLinkSub
set_option linter.unusedSimpArgs false
set_option linter.unusedVariables false
namespace Go.Proofs.Ytiloammjejggjaa
open Go.RowKit

/-- A call: 0 Sent, 1 Acked, 2 Heard, 3 Tick. -/
structure OpL where
  kind : Int
  t : Int
  now : Int
  body : List UInt8
def stepL (l : Lk) (o : OpL) : Lk :=
  if o.kind = 0 then (if sentE l o.t o.now o.body = 0 then sentL l o.t o.now o.body else l)
  else if o.kind = 1 then (if ackedE l o.t = 0 then ackedL l o.t else l)
  else if o.kind = 2 then (if heardE l o.now = 0 then heardL l o.now else l)
  else if o.kind = 3 then (if heardE l o.now = 0 then tickL l o.now else l)
  else l
def stepO (l : Lk) (o : OpL) : List (List UInt8) := if o.kind = 3 then tickO l o.now else []
def stepB (l : Lk) (o : OpL) : Bool := if o.kind = 3 then tickB l o.now else false

theorem ins_sorted (x : Wt) : ∀ ws : List Wt, ws.Pairwise (fun x y => x.t < y.t) → (∀ y ∈ ws, y.t ≠ x.t) → (ws.take (findI ws x.t) ++ x :: ws.drop (findI ws x.t)).Pairwise fun x y => x.t < y.t
  | [], _, _ => by simp [findI]
  | y :: ys, hs, hn => by
    obtain ⟨h1, h2⟩ := List.pairwise_cons.1 hs
    by_cases h : y.t < x.t
    · have e : findI (y :: ys) x.t = findI ys x.t + 1 := by unfold findI; rw [List.takeWhile_cons_of_pos (by simpa using h)]; rfl
      rw [e, List.take_succ_cons, List.drop_succ_cons, List.cons_append, List.pairwise_cons]
      refine ⟨fun z hz => ?_, ins_sorted x ys h2 fun z hz => hn z (List.mem_cons_of_mem _ hz)⟩
      rcases List.mem_append.1 hz with hz | hz
      · exact h1 z (List.mem_of_mem_take hz)
      · rcases List.mem_cons.1 hz with rfl | hz
        · exact h
        · exact h1 z (List.mem_of_mem_drop hz)
    · have e : findI (y :: ys) x.t = 0 := by unfold findI; rw [List.takeWhile_cons_of_neg (by simpa using h)]; rfl
      have hy := hn y List.mem_cons_self
      rw [e, List.take_zero, List.drop_zero, List.nil_append, List.pairwise_cons]
      refine ⟨fun z hz => ?_, hs⟩
      rcases List.mem_cons.1 hz with rfl | hz
      · omega
      · have := h1 z hz
        omega
theorem mem_ins {x y : Wt} {ws : List Wt} {i : Nat} (h : y ∈ ws.take i ++ x :: ws.drop i) : y = x ∨ y ∈ ws := by
  rcases List.mem_append.1 h with h | h
  · exact .inr (List.mem_of_mem_take h)
  · rcases List.mem_cons.1 h with h | h
    · exact .inl h
    · exact .inr (List.mem_of_mem_drop h)
theorem sent_may {l : Lk} {t now : Int} {body : List UInt8} (h : sentE l t now body = 0) : mayL ⟨l.period, l.most, l.quiet, l.heard, insW l t now body⟩ = true := by
  obtain ⟨hm, h1, h2, h3, h4, h5⟩ := sentE_zero h
  have hm' := hm
  simp only [mayL, Bool.and_eq_true] at hm' ⊢
  obtain ⟨g1, g2⟩ := hm'
  obtain ⟨a1, a2, a3, a4, a5, a6, a7, a8⟩ := headOk_iff.1 g1
  obtain ⟨b1, b2⟩ := wtsOk_iff.1 g2
  obtain ⟨c1, c2⟩ := isTime_iff.1 h1
  obtain ⟨d1, d2⟩ := isTime_iff.1 h2
  refine ⟨headOk_iff.2 ⟨a1, a2, a3, a4, a5, a6, a7, ?_⟩, wtsOk_iff.2 ⟨fun x hx => ?_, ?_⟩⟩
  · show (insW l t now body).length ≤ 8
    unfold insW
    simp only [List.length_append, List.length_take, List.length_cons, List.length_drop]
    omega
  · rcases mem_ins hx with rfl | hx
    · exact ⟨by show -1 < t; omega, wtOk_iff.2 ⟨h1, by show t - 1 < t; omega, by show 0 ≤ now + l.period; omega, by show now + l.period ≤ 8589934592; omega, by show (0 : Int) ≤ 0; omega, a5, h3⟩⟩
    · exact b1 x hx
  · refine ins_sorted ⟨t, now + l.period, 0, body⟩ l.waits b2 fun y hy e => ?_
    have : findB l.waits t = true := by rw [← show y.t = t from e]; exact findB_mem hy
    rw [h4] at this
    cases this
theorem heard_may {l : Lk} {now : Int} (h : heardE l now = 0) : mayL l = true ∧ isTime now = true := by
  unfold heardE at h
  split at h
  · rename_i hc
    simpa using hc
  · cases h
theorem heardL_may {l : Lk} {now : Int} (h : heardE l now = 0) : mayL ⟨l.period, l.most, l.quiet, max l.heard now, l.waits⟩ = true := by
  obtain ⟨hm, h1⟩ := heard_may h
  simp only [mayL, Bool.and_eq_true] at hm ⊢
  obtain ⟨g1, g2⟩ := hm
  obtain ⟨a1, a2, a3, a4, a5, a6, a7, a8⟩ := headOk_iff.1 g1
  have b7 := isTime_iff.1 a7
  have b1 := isTime_iff.1 h1
  exact ⟨headOk_iff.2 ⟨a1, a2, a3, a4, a5, a6, isTime_iff.2 (by show 0 ≤ max l.heard now ∧ max l.heard now ≤ 4294967294; omega), a8⟩, g2⟩
theorem tick_may {l : Lk} {now : Int} (h : heardE l now = 0) (hl : lostL l now = false) : mayL ⟨l.period, l.most, l.quiet, l.heard, l.waits.map (tick1 now l.period)⟩ = true := by
  obtain ⟨hm, h1⟩ := heard_may h
  simp only [mayL, Bool.and_eq_true] at hm ⊢
  obtain ⟨g1, g2⟩ := hm
  obtain ⟨a1, a2, a3, a4, a5, a6, a7, a8⟩ := headOk_iff.1 g1
  obtain ⟨b1, b2⟩ := wtsOk_iff.1 g2
  obtain ⟨c1, c2⟩ := isTime_iff.1 h1
  have hsp : ∀ x ∈ l.waits, ¬ (x.due ≤ now ∧ x.tries = l.most) := fun x hx hc => by
    have : lostL l now = true := by
      unfold lostL
      rw [Bool.or_eq_true]
      exact .inr (List.any_eq_true.2 ⟨x, hx, by unfold spentP; simp [hc.1, hc.2]⟩)
    rw [hl] at this
    cases this
  have ht : ∀ x, (tick1 now l.period x).t = x.t := fun x => by unfold tick1 bump; split <;> rfl
  refine ⟨headOk_iff.2 ⟨a1, a2, a3, a4, a5, a6, a7, by show (l.waits.map (tick1 now l.period)).length ≤ 8; rw [List.length_map]; exact a8⟩, wtsOk_iff.2 ⟨fun y hy => ?_, ?_⟩⟩
  · obtain ⟨x, hx, rfl⟩ := List.mem_map.1 hy
    obtain ⟨b3, b4⟩ := b1 x hx
    obtain ⟨d1, d2, d3, d4, d5, d6, d7⟩ := wtOk_iff.1 b4
    have := hsp x hx
    rw [ht]
    refine ⟨b3, ?_⟩
    unfold tick1
    split
    · exact wtOk_iff.2 ⟨d1, d2, by show 0 ≤ now + l.period; omega, by show now + l.period ≤ 8589934592; omega, by show 0 ≤ x.tries + 1; omega, by show x.tries + 1 ≤ l.most; omega, d7⟩
    · exact b4
  · show (l.waits.map (tick1 now l.period)).Pairwise fun x y => x.t < y.t
    rw [List.pairwise_map]
    exact b2.imp fun h => by rw [ht, ht]; exact h

def ofB (body : List UInt8) (x : Wt) : Bool := decide (x.body = body)
theorem again_count (body : List UInt8) (now : Int) (ws : List Wt) : (againW ws now).count body = ((ws.filter (ofB body)).filter fun x => decide (x.due ≤ now)).length := by
  induction ws with
  | nil => rfl
  | cons x xs ih =>
    unfold againW at ih ⊢
    by_cases h1 : x.due ≤ now <;> by_cases h2 : x.body = body <;> simp [List.filter_cons, ofB, h1, h2] at ih ⊢ <;> simpa [ofB] using ih
/-- So often was this body told; of what waits at most one has it, and was tried as often at least. -/
structure Told (most : Int) (body : List UInt8) (l : Lk) (n : Int) : Prop where
  may : mayL l = true
  top : l.most = most
  one : (l.waits.filter (ofB body)).length ≤ 1
  tries : ∀ x ∈ l.waits, x.body = body → n ≤ x.tries
  le : n ≤ most
  pos : 0 ≤ n
theorem stepB_none (l : Lk) (o : OpL) (h : stepB l o = true) : stepO l o = [] := by
  unfold stepB at h
  unfold stepO
  split at h
  · rename_i hk
    rw [if_pos hk]
    exact (tickO_len l o.now).2 h
  · cases h
theorem stepO_len (l : Lk) (o : OpL) : (stepO l o).length ≤ l.waits.length := by
  unfold stepO
  split
  · exact (tickO_len l o.now).1
  · simp
theorem one_of {body : List UInt8} {ws : List Wt} (h : (ws.filter (ofB body)).length ≤ 1) {x : Wt} (hx : x ∈ ws) (hb : x.body = body) : ws.filter (ofB body) = [x] := by
  have hm : x ∈ ws.filter (ofB body) := List.mem_filter.2 ⟨hx, by simpa [ofB] using hb⟩
  generalize ws.filter (ofB body) = F at *
  match F, h, hm with
  | [y], _, hm => rw [List.mem_singleton] at hm; rw [hm]
theorem Told.step {most : Int} {body : List UInt8} {l : Lk} {n : Int} {o : OpL} (h : Told most body l n) (ho : ¬ (o.kind = 0 ∧ o.body = body)) : Told most body (stepL l o) (n + ((stepO l o).count body : Nat)) := by
  have hc : ∀ m : Int, m = n → Told most body l m := fun m e => e ▸ h
  by_cases k3 : o.kind = 3
  · have eO : stepO l o = tickO l o.now := if_pos k3
    have eL : stepL l o = if heardE l o.now = 0 then tickL l o.now else l := by unfold stepL; rw [if_neg (by omega), if_neg (by omega), if_neg (by omega), if_pos k3]
    rw [eO, eL]
    unfold tickO tickL
    by_cases he : heardE l o.now = 0
    · simp only [if_pos he]
      cases hl : lostL l o.now with
      | true => exact hc _ (by simp)
      | false =>
        simp only [Bool.false_eq_true, if_false]
        have hm := tick_may he hl
        have htr : ∀ x ∈ l.waits, x.body = body → n + ((againW l.waits o.now).count body : Nat) ≤ (tick1 o.now l.period x).tries := fun x hx hb => by
          have h1 := h.tries x hx hb
          rw [again_count, one_of h.one hx hb]
          unfold tick1 bump
          by_cases hd : x.due ≤ o.now
          · simp [List.filter_cons, hd]; omega
          · simp [List.filter_cons, hd]; omega
        refine ⟨hm, h.top, ?_, ?_, ?_, ?_⟩
        · show ((l.waits.map (tick1 o.now l.period)).filter (ofB body)).length ≤ 1
          rw [List.filter_map, List.length_map, show (ofB body ∘ tick1 o.now l.period) = ofB body from funext fun x => by simp [ofB, tick1_body]]
          exact h.one
        · intro y hy hb
          obtain ⟨x, hx, rfl⟩ := List.mem_map.1 hy
          rw [tick1_body] at hb
          exact htr x hx hb
        · by_cases hF : l.waits.filter (ofB body) = []
          · rw [again_count, hF]
            simpa using h.le
          · obtain ⟨x, hxF⟩ := List.exists_mem_of_ne_nil _ hF
            obtain ⟨hx, hb⟩ := List.mem_filter.1 hxF
            have h1 := htr x hx (by simpa [ofB] using hb)
            have h2 := (wtsOk_iff.1 (by simp only [mayL, Bool.and_eq_true] at hm; exact hm.2)).1 _ (List.mem_map.2 ⟨x, hx, rfl⟩)
            have h3 := (wtOk_iff.1 h2.2).2.2.2.2.2.1
            have h4 := h.top
            omega
        · have := h.pos
          omega
    · rw [if_neg he, if_neg he]
      exact hc _ (by simp)
  · have eO : stepO l o = [] := if_neg k3
    rw [eO]
    simp only [List.count_nil, Int.natCast_zero, Int.add_zero]
    unfold stepL
    by_cases k0 : o.kind = 0
    · rw [if_pos k0]
      split
      · rename_i he
        have hb : o.body ≠ body := fun e => ho ⟨k0, e⟩
        unfold sentL
        rw [if_pos he]
        refine ⟨sent_may he, h.top, ?_, ?_, h.le, h.pos⟩
        · show ((insW l o.t o.now o.body).filter (ofB body)).length ≤ 1
          unfold insW
          rw [List.filter_append, List.filter_cons, show ofB body ⟨o.t, o.now + l.period, 0, o.body⟩ = false by simpa [ofB] using hb, if_neg (by simp), ← List.filter_append, List.take_append_drop]
          exact h.one
        · intro x hx hxb
          rcases mem_ins hx with rfl | hx
          · exact absurd hxb hb
          · exact h.tries x hx hxb
      · exact h
    · rw [if_neg k0]
      split
      · split
        · rename_i he
          unfold ackedL
          rw [if_pos he]
          have hs := delW_sub l.waits o.t
          exact ⟨mayL_sub h.may hs, h.top, Nat.le_trans (hs.filter _).length_le h.one, fun x hx => h.tries x (hs.subset hx), h.le, h.pos⟩
        · exact h
      · split
        · split
          · rename_i he
            unfold heardL
            rw [if_pos he]
            exact ⟨heardL_may he, h.top, h.one, h.tries, h.le, h.pos⟩
          · exact h
        · exact h
end Go.Proofs.Ytiloammjejggjaa
