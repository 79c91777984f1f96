/- Regions that draw their order and end with an operation that waits for all the others: that one may do anything (a store into what the region itself laid). -/
import Derived.Test.YtchjcfbhpgigjaaRegion
namespace Go.Proofs.Ytchjcfbhpgigjaa
open Go.RowKit

/-- Each operation but the last is awaited by a later one. -/
def awaitB (ops : Array Oper) : Bool := (List.range (ops.size - 1)).all fun i => (List.range ops.size).any fun j => decide (i < j) && ((ops[j]?).map fun o => o.after.any fun e => decide (e.on = i) && Region.binds .any e).getD false
section
variable {P : Program} {ops : Array Oper} {F : (Nat → Value) → Act} {w0 : World} {Q : Exit → Act → World → Prop}
theorem awaitB_spec (h : awaitB ops = true) {i : Nat} (hi : i < ops.size - 1) : ∃ j o, i < j ∧ ops[j]? = some o ∧ ∃ e ∈ o.after, e.on = i ∧ Region.binds .any e = true := by
  unfold awaitB at h
  rw [List.all_eq_true] at h
  have h1 := h i (by simpa using hi)
  rw [List.any_eq_true] at h1
  obtain ⟨j, hj, h2⟩ := h1
  simp only [Bool.and_eq_true, decide_eq_true_eq] at h2
  obtain ⟨h3, h4⟩ := h2
  cases ho : ops[j]? with
  | none => rw [ho] at h4; simp at h4
  | some o =>
    rw [ho] at h4
    simp only [Option.map_some, Option.getD_some, Array.any_eq_true'] at h4
    obtain ⟨e, he, h5⟩ := h4
    simp only [Bool.and_eq_true, decide_eq_true_eq] at h5
    exact ⟨j, o, h3, ho, e, he, h5.1, h5.2⟩
theorem wpAny_done {fuel : Nat} {listed : Array Bool} {a : Act} {w : World} (hr : Region.ready .any ops listed = []) (h : Q .normal a w) : wpAny P .any ops Q fuel listed a w := by
  cases fuel with
  | zero => exact ⟨hr, h⟩
  | succ fuel => exact ⟨fun _ => h, fun i hi => by rw [hr] at hi; cases hi⟩
/-- The words up to the last one. -/
def LexL (P : Program) (ops : Array Oper) (F : (Nat → Value) → Act) (w0 : World) (Q : Exit → Act → World → Prop) : List Oper → Nat → List (Value → World → Prop) → Prop
  | [], _, _ => False
  | [o], _, Φs => ∀ u w, Below w0.heap.size w0 w → (∀ (i : Nat) (Φ : Value → World → Prop), Φs[i]? = some Φ → Φ (u i) w) → Region.wanted o (yielded ops (F u).tmps) = true ∧ ∀ K : Act → World → Prop, (∀ a w', Q .normal a w' → K a w') → o.wp P (F u) w K Q
  | o :: o' :: rest, i, Φs => ∃ Φ, Grows Φ ∧ (∀ u w, Below w0.heap.size w0 w → Waited Φs o.after.toList u w → Looked P ops F o Φ Q u w) ∧ LexL P ops F w0 Q (o' :: rest) (i + 1) (Φs ++ [Φ])
theorem lexl_words : ∀ (l : List Oper) (i : Nat) (Φs : List (Value → World → Prop)), Φs.length = i → LexL P ops F w0 Q l i Φs → ∃ Ψs : List (Value → World → Prop), 0 < l.length ∧ Ψs.length + 1 = i + l.length ∧ (∀ j, j < i → Ψs[j]? = Φs[j]?) ∧
    (∀ j o, l[j]? = some o → j + 1 < l.length → ∃ Φ, Ψs[i + j]? = some Φ ∧ Grows Φ ∧ ∀ u w, Below w0.heap.size w0 w → Waited (Ψs.take (i + j)) o.after.toList u w → Looked P ops F o Φ Q u w) ∧
    (∀ o, l[l.length - 1]? = some o → ∀ u w, Below w0.heap.size w0 w → (∀ (j : Nat) (Φ : Value → World → Prop), Ψs[j]? = some Φ → Φ (u j) w) → Region.wanted o (yielded ops (F u).tmps) = true ∧ ∀ K : Act → World → Prop, (∀ a w', Q .normal a w' → K a w') → o.wp P (F u) w K Q)
  | [], i, Φs, hl, h => h.elim
  | [o], i, Φs, hl, h => ⟨Φs, by simp, by simpa using hl, fun _ _ => rfl, fun j o ho hj => by simp at hj, fun o' ho => by
      simp only [List.length_cons, List.length_nil, Nat.zero_add, Nat.sub_self, List.getElem?_cons_zero, Option.some.injEq] at ho
      subst ho
      exact h⟩
  | o :: o' :: rest, i, Φs, hl, h => by
    obtain ⟨Φ, hg, hs, hr⟩ := h
    obtain ⟨Ψs, h0, h1, h2, h3, h4⟩ := lexl_words (o' :: rest) (i + 1) (Φs ++ [Φ]) (by simp [hl]) hr
    have hat : Ψs[i]? = some Φ := by rw [h2 i (by omega)]; simp [hl]
    have htake : Ψs.take i = Φs := by
      apply List.ext_getElem?
      intro j
      by_cases hj : j < i
      · rw [List.getElem?_take_of_lt hj, h2 j (by omega), List.getElem?_append_left (by omega)]
      · rw [List.getElem?_eq_none (by simp; omega), List.getElem?_eq_none (by omega)]
    refine ⟨Ψs, by simp, by simp at h1 ⊢; omega, fun j hj => by rw [h2 j (by omega), List.getElem?_append_left (by omega)], ?_, ?_⟩
    · intro j p hp hj
      match j, hp with
      | 0, hp =>
        simp only [List.getElem?_cons_zero, Option.some.injEq] at hp
        subst hp
        refine ⟨Φ, by simpa using hat, hg, fun u w hb hw => ?_⟩
        have hw' : Waited Φs o.after.toList u w := by rw [Nat.add_zero, htake] at hw; exact hw
        exact hs u w hb hw'
      | j + 1, hp =>
        simp only [List.getElem?_cons_succ] at hp
        obtain ⟨Φ', a1, a2, a3⟩ := h3 j p hp (by simp at hj ⊢; omega)
        rw [show i + 1 + j = i + (j + 1) by omega] at a1 a3
        exact ⟨Φ', a1, a2, a3⟩
    · intro p hp
      exact h4 p (by simpa using hp)
theorem wpAny_lexl (hB : backB ops = true) (hA : awaitB ops = true) (m : Nat) (hm : ops.size = m + 1) (Ψs : List (Value → World → Prop)) (hlen : Ψs.length = m)
    (hF : ∀ i o u v, ops[i]? = some o → (F u).put o.dst v = F (upd u i v))
    (hs : ∀ i o, i < m → ops[i]? = some o → ∃ Φ, Ψs[i]? = some Φ ∧ Grows Φ ∧ ∀ u w, Below w0.heap.size w0 w → Waited (Ψs.take i) o.after.toList u w → Looked P ops F o Φ Q u w)
    (hend : ∀ o, ops[m]? = some o → ∀ u w, Below w0.heap.size w0 w → (∀ (j : Nat) (Φ : Value → World → Prop), Ψs[j]? = some Φ → Φ (u j) w) → Region.wanted o (yielded ops (F u).tmps) = true ∧ ∀ K : Act → World → Prop, (∀ a w', Q .normal a w' → K a w') → o.wp P (F u) w K Q) :
    ∀ (fuel : Nat) (listed : Array Bool) (u : Nat → Value) (w : World), listed.size = ops.size → listed.getD m false = false → (∀ i o, ops[i]? = some o → listed.getD i false = true → ∀ e ∈ o.after, Region.binds .any e = true → listed.getD e.on false = true) →
      ((List.range ops.size).filter fun i => !listed.getD i false).length ≤ fuel → Below w0.heap.size w0 w →
      (∀ (j : Nat) (Φ : Value → World → Prop), listed.getD j false = true → Ψs[j]? = some Φ → Φ (u j) w) → wpAny P .any ops Q fuel listed (F u) w := by
  intro fuel
  induction fuel with
  | zero =>
    intro listed u w hsz h0 _ hf hb hv
    exfalso
    have : m ∈ (List.range ops.size).filter fun i => !listed.getD i false := by
      rw [List.mem_filter]
      exact ⟨by simp; omega, by rw [h0]; rfl⟩
    rw [List.eq_nil_of_length_eq_zero (by omega : ((List.range ops.size).filter fun i => !listed.getD i false).length = 0)] at this
    cases this
  | succ fuel ih =>
    intro listed u w hsz h0 hcl hf hb hv
    refine ⟨fun hr => ?_, fun i hi => ?_⟩
    · have := all_listed hB listed hsz hr ops.size m (by omega) (by omega)
      rw [h0] at this; cases this
    have hi' := hi
    rw [mem_ready] at hi
    obtain ⟨h1, o, ho, hdep⟩ := hi
    have hlt : i < ops.size := (Array.getElem?_eq_some_iff.1 ho).1
    have hback := backB_spec hB ho
    have hsz' : (listed.setIfInBounds i true).size = ops.size := by simpa using hsz
    by_cases him : i = m
    · subst him
      have hall : ∀ k j, j < i → i - j ≤ k → listed.getD j false = true := by
        intro k
        induction k with
        | zero => intro j h1 h2; omega
        | succ k ihk =>
          intro j hj hk
          obtain ⟨j', o', hjj, ho', e, he, heq, hbind⟩ := awaitB_spec hA (i := j) (by omega)
          have hj'lt : j' < ops.size := (Array.getElem?_eq_some_iff.1 ho').1
          by_cases hji : j' = i
          · subst hji
            rw [ho] at ho'
            injection ho' with ho'
            subst ho'
            rw [← heq]
            exact hdep e he hbind
          · rw [← heq]
            exact hcl j' o' ho' (ihk j' (by omega) (by omega)) e he hbind
      have hv' : ∀ (j : Nat) (Φ : Value → World → Prop), Ψs[j]? = some Φ → Φ (u j) w := by
        intro j Φ hj
        have hjl : j < Ψs.length := by
          rcases Nat.lt_or_ge j Ψs.length with h | h
          · exact h
          · rw [List.getElem?_eq_none h] at hj; cases hj
        exact hv j Φ (hall _ j (by omega) (Nat.le_refl _)) hj
      obtain ⟨hw, hwp⟩ := hend o ho u w hb hv'
      unfold wpOp
      rw [ho]
      simp only
      rw [if_pos hw]
      refine .inl (hwp _ fun a w' hQ => wpAny_done ?_ hQ)
      have hall' : ∀ j, j < ops.size → (listed.setIfInBounds i true).getD j false = true := by
        intro j hj
        by_cases hji : i = j
        · subst hji
          have h2 : i < listed.size := by omega
          simp [h2]
        · rw [getD_set_ne false hji]
          exact hall _ j (by omega) (Nat.le_refl _)
      cases hr : Region.ready .any ops (listed.setIfInBounds i true) with
      | nil => rfl
      | cons j js =>
        exfalso
        have hj : j ∈ Region.ready .any ops (listed.setIfInBounds i true) := by rw [hr]; exact List.mem_cons_self
        rw [mem_ready] at hj
        obtain ⟨q1, q2, q3, _⟩ := hj
        have hjs : j < ops.size := (Array.getElem?_eq_some_iff.1 q3).1
        have := hall' j hjs
        have h2 : j < (listed.setIfInBounds i true).size := by omega
        rw [Array.getD_eq_getD_getElem?, Array.getElem?_eq_getElem h2] at this
        simp only [Option.getD_some] at this
        rw [Array.getD_eq_getD_getElem?, Array.getElem?_eq_getElem h2, Option.getD_some, this] at q1
        cases q1
    · obtain ⟨Φ, hΦ, hg, hl⟩ := hs i o (by omega) ho
      have hwt : Waited (Ψs.take i) o.after.toList u w := by
        intro e he hbind Φ' hΦ'
        have he' : e ∈ o.after := by simpa using he
        have h2 := hback e he'
        rw [List.getElem?_take_of_lt h2] at hΦ'
        exact hv e.on Φ' (hdep e he' hbind) hΦ'
      have hlook := hl u w hb hwt
      have hcount : ((List.range ops.size).filter fun j => !(listed.setIfInBounds i true).getD j false).length ≤ fuel := by
        have hle : ((List.range ops.size).filter fun j => !(listed.setIfInBounds i true).getD j false).length < ((List.range ops.size).filter fun j => !listed.getD j false).length := by
          have hsub : ((List.range ops.size).filter fun j => !(listed.setIfInBounds i true).getD j false) = (((List.range ops.size).filter fun j => !listed.getD j false).filter fun j => decide (j ≠ i)) := by
            rw [List.filter_filter]
            apply List.filter_congr
            intro j hj
            have h2 : i < listed.size := by omega
            by_cases hij : i = j
            · subst hij; simp [h2]
            · have : ¬ j = i := fun h => hij h.symm
              simp [Array.getElem?_setIfInBounds_ne hij, this]
          rw [hsub]
          refine List.length_filter_lt_length_iff_exists.2 ⟨i, ?_, by simp⟩
          rw [List.mem_filter]
          refine ⟨by simpa using hlt, ?_⟩
          have h2 : i < listed.size := by omega
          simpa [h2] using h1
        omega
      have next : ∀ v w', Below w.heap.size w w' → Φ v w' → wpAny P .any ops Q fuel (listed.setIfInBounds i true) ((F u).put o.dst v) w' := by
        intro v w' hb' hΦv
        rw [hF i o u v ho]
        refine ih _ _ _ hsz' (by rw [getD_set_ne false him]; exact h0) ?_ hcount (hb.trans (hb'.mono hb.size)) ?_
        · intro j o' ho' hj e he hbind
          have up : ∀ k, listed.getD k false = true → (listed.setIfInBounds i true).getD k false = true := by
            intro k hk
            by_cases hik : i = k
            · subst hik
              have h2 : i < listed.size := by omega
              simp [h2]
            · rw [getD_set_ne false hik]; exact hk
          by_cases hij : i = j
          · subst hij
            rw [ho] at ho'
            injection ho' with ho'
            subst ho'
            exact up _ (hdep e he hbind)
          · rw [getD_set_ne false hij] at hj
            exact up _ (hcl j o' ho' hj e he hbind)
        intro j Φ' hj hΦj
        by_cases hij : j = i
        · subst hij
          rw [hΦ] at hΦj
          injection hΦj with hΦj
          subst hΦj
          simpa [upd] using hΦv
        · have hj' : listed.getD j false = true := by rwa [getD_set_ne false (fun h => hij h.symm)] at hj
          have := hv j Φ' hj' hΦj
          have hlj : j < Ψs.length := by
            rcases Nat.lt_or_ge j Ψs.length with h | h
            · exact h
            · rw [List.getElem?_eq_none h] at hΦj; cases hΦj
          obtain ⟨Φ2, q1, q2, _⟩ := hs j ops[j] (by omega) (Array.getElem?_eq_getElem (by omega))
          rw [hΦj] at q1
          injection q1 with q1
          subst q1
          have hu : upd u i v j = u j := by simp [upd, hij]
          rw [hu]
          exact q2 _ _ _ this hb'
      unfold wpOp
      rw [ho]
      simp only
      unfold Looked at hlook
      by_cases hw : Region.wanted o (yielded ops (F u).tmps) = true
      · rw [if_pos hw] at hlook ⊢
        exact .inl (hlook _ next)
      · rw [if_neg hw] at hlook ⊢
        exact next undef w (Below.refl _ _) hlook
/-- One look at each operation serves every order; the last one waits for all. -/
theorem wp_region_lexl {id : Nat} {l : List Oper} {a : Act} (F : (Nat → Value) → Act) (hFl : ∀ u, fill u (l.map (·.dst)) 0 a = F u) (hm : P.follows .mixedOrders = true) (hB : backB l.toArray = true) (hA : awaitB l.toArray = true) (hap : apartB (l.map (·.dst)) = true)
    (h : LexL P l.toArray F w0 Q l 0 []) : (Code.region id l.toArray true).wp P Q a w0 := by
  obtain ⟨Ψs, h0, h1, _, h3, h4⟩ := lexl_words l 0 [] rfl h
  have hF : ∀ i o u v, l.toArray[i]? = some o → (F u).put o.dst v = F (upd u i v) := by
    intro i o u v ho
    rw [← hFl u, ← hFl (upd u i v)]
    have h2 : (l.map (·.dst))[i]? = some o.dst := by
      have h3 : l[i]? = some o := by simpa using ho
      simp [h3]
    have := fill_upd u v (l.map (·.dst)) 0 i a o.dst hap h2
    rwa [Nat.zero_add] at this
  have ha : a = F (fun i => match (l.map (·.dst))[i]? with | some (some d) => a.tmps.getD d undef | _ => undef) := by
    rw [← hFl]
    symm
    apply fill_self
    intro i d x hi hx
    simp only [Nat.zero_add, hi]
    simp [hx]
  refine wp_region_any hm ?_
  rw [ha]
  refine wpAny_lexl (w0 := w0) hB hA (l.length - 1) (by simp; omega) Ψs (by omega) hF ?_ ?_ _ _ _ _ (by simp) ?_ ?_ ?_ ⟨rfl, rfl, rfl, Nat.le_refl _, fun _ _ => rfl⟩ ?_
  · intro i o hi ho
    have := h3 i o (by simpa using ho) (by omega)
    simpa using this
  · intro o ho
    exact h4 o (by simpa using ho)
  · simp only [Array.getD_eq_getD_getElem?, Array.getElem?_replicate]
    split <;> rfl
  · intro i o _ hi
    exfalso
    simp only [Array.getD_eq_getD_getElem?, Array.getElem?_replicate] at hi
    split at hi <;> cases hi
  · refine Nat.le_trans (List.length_filter_le _ _) (by simp)
  · intro j Φ hj _
    exfalso
    simp only [Array.getD_eq_getD_getElem?, Array.getElem?_replicate] at hj
    split at hj <;> cases hj
theorem LexL.is {o o' : Oper} {rest : List Oper} {i : Nat} {Φs : List (Value → World → Prop)} {c : Value} (h : ∀ u w, Below w0.heap.size w0 w → Waited Φs o.after.toList u w → Looked P ops F o (Is c) Q u w)
    (r : LexL P ops F w0 Q (o' :: rest) (i + 1) (Φs ++ [Is c])) : LexL P ops F w0 Q (o :: o' :: rest) i Φs := ⟨Is c, grows_is c, h, r⟩
theorem LexL.word {o o' : Oper} {rest : List Oper} {i : Nat} {Φs : List (Value → World → Prop)} (Φ : Value → World → Prop) (hg : Grows Φ) (h : ∀ u w, Below w0.heap.size w0 w → Waited Φs o.after.toList u w → Looked P ops F o Φ Q u w)
    (r : LexL P ops F w0 Q (o' :: rest) (i + 1) (Φs ++ [Φ])) : LexL P ops F w0 Q (o :: o' :: rest) i Φs := ⟨Φ, hg, h, r⟩
theorem LexL.last {o : Oper} {i : Nat} {Φs : List (Value → World → Prop)} (h : ∀ u w, Below w0.heap.size w0 w → (∀ (j : Nat) (Φ : Value → World → Prop), Φs[j]? = some Φ → Φ (u j) w) → Region.wanted o (yielded ops (F u).tmps) = true ∧ ∀ K : Act → World → Prop, (∀ a w', Q .normal a w' → K a w') → o.wp P (F u) w K Q) : LexL P ops F w0 Q [o] i Φs := h
end
end Go.Proofs.Ytchjcfbhpgigjaa
