/- Regions that draw their order, in general: each operation is given a word on the value that it yields (a word that no growth of the world can undo); an operation may lean on the words of those that it waits for, and on nothing else. Then one look at each operation serves every order. -/
import Derived.Deep.QuietTactic
import Derived.BigQuiet
import Derived.Test.YtchjcfbhpgigjaaWorld
namespace Go.Proofs.Ytchjcfbhpgigjaa
open Go.RowKit

def upd (u : Nat → Value) (i : Nat) (v : Value) : Nat → Value := fun j => if j = i then v else u j
/-- A frame whose slots, those that the region writes, hold whatever u says. -/
def fill (u : Nat → Value) : List (Option Tmp) → Nat → Act → Act
  | [], _, a => a
  | d :: ds, i, a => fill u ds (i + 1) (a.put d (u i))
theorem fill_put (u : Nat → Value) (d : Option Tmp) (v : Value) : ∀ (ds : List (Option Tmp)) (i : Nat) (a : Act), (∀ x, d = some x → some x ∉ ds) → (fill u ds i a).put d v = fill u ds i (a.put d v)
  | [], _, _, _ => rfl
  | e :: ds, i, a, h => by
    show (fill u ds (i + 1) (a.put e (u i))).put d v = fill u ds (i + 1) ((a.put d v).put e (u i))
    rw [fill_put u d v ds (i + 1) _ (fun x hx hm => h x hx (List.mem_cons_of_mem _ hm)), Act.put_comm a v (u i) (x := d) (y := e) (fun x hx he => h x hx (by rw [he]; exact List.mem_cons_self))]
theorem put_put (a : Act) (d : Option Tmp) (v v' : Value) : (a.put d v).put d v' = a.put d v' := by
  cases d with
  | none => rfl
  | some x => simp [Act.put]
theorem fill_congr (u u' : Nat → Value) : ∀ (ds : List (Option Tmp)) (i : Nat) (a : Act), (∀ j, i ≤ j → u j = u' j) → fill u ds i a = fill u' ds i a
  | [], _, _, _ => rfl
  | d :: ds, i, a, h => by
    show fill u ds (i + 1) (a.put d (u i)) = fill u' ds (i + 1) (a.put d (u' i))
    rw [h i (Nat.le_refl _), fill_congr u u' ds (i + 1) _ (fun j hj => h j (by omega))]
/-- Each slot is written by one operation. -/
def apartB : List (Option Tmp) → Bool
  | [] => true
  | none :: ds => apartB ds
  | some d :: ds => !ds.contains (some d) && apartB ds
theorem fill_upd (u : Nat → Value) (v : Value) : ∀ (ds : List (Option Tmp)) (k i : Nat) (a : Act) (d : Option Tmp), apartB ds = true → ds[i]? = some d → (fill u ds k a).put d v = fill (upd u (k + i) v) ds k a
  | [], _, _, _, _, _, h => by simp at h
  | e :: ds, k, 0, a, d, ha, h => by
    simp only [List.getElem?_cons_zero, Option.some.injEq] at h
    subst h
    have hn : ∀ x, e = some x → some x ∉ ds := by
      intro x hx
      subst hx
      simp only [apartB, Bool.and_eq_true, Bool.not_eq_true', List.contains_eq_mem] at ha
      simpa using ha.1
    show (fill u ds (k + 1) (a.put e (u k))).put e v = fill (upd u (k + 0) v) ds (k + 1) (a.put e (upd u (k + 0) v k))
    rw [fill_put u e v ds (k + 1) _ hn, put_put]
    have : upd u (k + 0) v k = v := by simp [upd]
    rw [this]
    exact fill_congr _ _ _ _ _ (fun j hj => by simp [upd]; omega)
  | e :: ds, k, i + 1, a, d, ha, h => by
    simp only [List.getElem?_cons_succ] at h
    have ha' : apartB ds = true := by
      cases e with
      | none => exact ha
      | some x => simp only [apartB, Bool.and_eq_true] at ha; exact ha.2
    show (fill u ds (k + 1) (a.put e (u k))).put d v = fill (upd u (k + (i + 1)) v) ds (k + 1) (a.put e (upd u (k + (i + 1)) v k))
    rw [fill_upd u v ds (k + 1) i _ d ha' h]
    have e1 : upd u (k + (i + 1)) v k = u k := by simp [upd]
    have e2 : k + 1 + i = k + (i + 1) := by omega
    rw [e1, e2]
theorem fill_self (a : Act) : ∀ (ds : List (Option Tmp)) (k : Nat) (u : Nat → Value), (∀ i d x, ds[i]? = some (some d) → a.tmps[d]? = some x → u (k + i) = x) → fill u ds k a = a
  | [], _, _, _ => rfl
  | d :: ds, k, u, h => by
    have hp : a.put d (u k) = a := by
      cases d with
      | none => rfl
      | some x =>
        cases hx : a.tmps[x]? with
        | none =>
          unfold Act.put
          simp only
          rw [Array.setIfInBounds_eq_of_size_le (by simpa using hx)]
        | some y =>
          have := h 0 x y rfl hx
          simp only [Nat.add_zero] at this
          rw [this]
          unfold Act.put
          simp only
          congr 1
          apply Array.ext (by simp)
          intro j h1 h2
          by_cases hj : x = j
          · subst hj
            have := (Array.getElem?_eq_some_iff.1 hx).2
            rw [Array.getElem_setIfInBounds_self, this]
          · rw [Array.getElem_setIfInBounds_ne _ hj]
    show fill u ds (k + 1) (a.put d (u k)) = a
    rw [hp]
    exact fill_self a ds (k + 1) u (fun i e x hi hx => by
      have := h (i + 1) e x (by simpa using hi) hx
      rwa [show k + (i + 1) = k + 1 + i by omega] at this)

/-- A word on a value that no growth of the world can undo. -/
def Grows (Φ : Value → World → Prop) : Prop := ∀ v w w', Φ v w → Below w.heap.size w w' → Φ v w'
/-- Just this value. -/
def Is (c : Value) : Value → World → Prop := fun v _ => v = c
theorem grows_is (c : Value) : Grows (Is c) := fun _ _ _ h _ => h
/-- The words of the operations that one waits for. -/
def Waited (Φs : List (Value → World → Prop)) (es : List Edge) (u : Nat → Value) (w : World) : Prop := ∀ e ∈ es, Region.binds .any e = true → ∀ Φ : Value → World → Prop, Φs[e.on]? = some Φ → Φ (u e.on) w
/-- The one look at an operation. -/
def Looked (P : Program) (ops : Array Oper) (F : (Nat → Value) → Act) (o : Oper) (Φ : Value → World → Prop) (Q : Exit → Act → World → Prop) (u : Nat → Value) (w : World) : Prop :=
  if Region.wanted o (yielded ops (F u).tmps) = true then ∀ K : Act → World → Prop, (∀ v w', Below w.heap.size w w' → Φ v w' → K ((F u).put o.dst v) w') → o.wp P (F u) w K Q
  else Φ undef w
/-- The operations looked at in the order of the text; Φs: the words of those ahead. -/
def Lex (P : Program) (ops : Array Oper) (F : (Nat → Value) → Act) (w0 : World) (Q : Exit → Act → World → Prop) : List Oper → Nat → List (Value → World → Prop) → Prop
  | [], _, Φs => ∀ u w, Below w0.heap.size w0 w → (∀ (i : Nat) (Φ : Value → World → Prop), Φs[i]? = some Φ → Φ (u i) w) → Q .normal (F u) w
  | o :: rest, i, Φs => ∃ Φ, Grows Φ ∧ (∀ u w, Below w0.heap.size w0 w → Waited Φs o.after.toList u w → Looked P ops F o Φ Q u w) ∧ Lex P ops F w0 Q rest (i + 1) (Φs ++ [Φ])
/-- Every edge leads back. -/
def backB (ops : Array Oper) : Bool := (List.range ops.size).all fun i => ((ops[i]?).map fun o => o.after.all fun e => decide (e.on < i)).getD false
section
variable {P : Program} {ops : Array Oper} {F : (Nat → Value) → Act} {w0 : World} {Q : Exit → Act → World → Prop}
theorem lex_words : ∀ (l : List Oper) (i : Nat) (Φs : List (Value → World → Prop)), Φs.length = i → Lex P ops F w0 Q l i Φs → ∃ Ψs : List (Value → World → Prop), Ψs.length = i + l.length ∧ (∀ j, j < i → Ψs[j]? = Φs[j]?) ∧
    (∀ j o, l[j]? = some o → ∃ Φ, Ψs[i + j]? = some Φ ∧ Grows Φ ∧ ∀ u w, Below w0.heap.size w0 w → Waited (Ψs.take (i + j)) o.after.toList u w → Looked P ops F o Φ Q u w) ∧
    (∀ u w, Below w0.heap.size w0 w → (∀ (j : Nat) (Φ : Value → World → Prop), Ψs[j]? = some Φ → Φ (u j) w) → Q .normal (F u) w)
  | [], i, Φs, hl, h => ⟨Φs, by simpa using hl, fun _ _ => rfl, fun j o ho => by simp at ho, h⟩
  | o :: rest, i, Φs, hl, h => by
    obtain ⟨Φ, hg, hs, hr⟩ := h
    obtain ⟨Ψs, h1, h2, h3, h4⟩ := lex_words rest (i + 1) (Φs ++ [Φ]) (by simp [hl]) hr
    have hat : Ψs[i]? = some Φ := by rw [h2 i (by omega)]; simp [hl]
    have htake : Ψs.take i = Φs := by
      apply List.ext_getElem?
      intro j
      by_cases hj : j < i
      · rw [List.getElem?_take_of_lt hj, h2 j (by omega), List.getElem?_append_left (by omega)]
      · rw [List.getElem?_eq_none (by simp; omega), List.getElem?_eq_none (by omega)]
    refine ⟨Ψs, by simp at h1 ⊢; omega, fun j hj => by rw [h2 j (by omega), List.getElem?_append_left (by omega)], ?_, h4⟩
    intro j p hp
    match j, hp with
    | 0, hp =>
      simp only [List.getElem?_cons_zero, Option.some.injEq] at hp
      subst hp
      refine ⟨Φ, by simpa using hat, hg, fun u w hb hw => ?_⟩
      have hw' : Waited Φs o.after.toList u w := by rw [Nat.add_zero, htake] at hw; exact hw
      exact hs u w hb hw'
    | j + 1, hp =>
      simp only [List.getElem?_cons_succ] at hp
      obtain ⟨Φ', a1, a2, a3⟩ := h3 j p hp
      rw [show i + 1 + j = i + (j + 1) by omega] at a1 a3
      exact ⟨Φ', a1, a2, a3⟩
theorem backB_spec (hB : backB ops = true) {i : Nat} {o : Oper} (ho : ops[i]? = some o) : ∀ e ∈ o.after, e.on < i := by
  intro e he
  unfold backB at hB
  rw [List.all_eq_true] at hB
  have hlt : i < ops.size := (Array.getElem?_eq_some_iff.1 ho).1
  have := hB i (by simpa using hlt)
  rw [ho] at this
  simp only [Option.map_some, Option.getD_some, Array.all_eq_true_iff_forall_mem, decide_eq_true_eq] at this
  exact this e he
/-- Where nothing may come up any more, all is listed. -/
theorem all_listed (hB : backB ops = true) (listed : Array Bool) (hsz : listed.size = ops.size) (h : Region.ready .any ops listed = []) : ∀ n i, i < n → i < ops.size → listed.getD i false = true
  | 0, _, h, _ => absurd h (by omega)
  | n + 1, i, hi, hlt => by
    have ih := all_listed hB listed hsz h n
    by_cases hin : i < n
    · exact ih i hin hlt
    · obtain rfl : i = n := by omega
      cases hd : listed.getD i false with
      | true => rfl
      | false =>
        have hm : i ∈ Region.ready .any ops listed := by
          rw [mem_ready]
          refine ⟨?_, ops[i], Array.getElem?_eq_getElem hlt, fun e he _ => ?_⟩
          · have h2 : i < listed.size := by omega
            simpa [h2] using hd
          · have := backB_spec hB (Array.getElem?_eq_getElem hlt) e he
            exact ih e.on this (by omega)
        rw [h] at hm
        cases hm
theorem wpAny_lex (hB : backB ops = true) (Ψs : List (Value → World → Prop)) (hlen : Ψs.length = ops.size)
    (hF : ∀ i o u v, ops[i]? = some o → (F u).put o.dst v = F (upd u i v))
    (hs : ∀ i o, ops[i]? = some o → ∃ Φ, Ψs[i]? = some Φ ∧ Grows Φ ∧ ∀ u w, Below w0.heap.size w0 w → Waited (Ψs.take i) o.after.toList u w → Looked P ops F o Φ Q u w)
    (hend : ∀ u w, Below w0.heap.size w0 w → (∀ (j : Nat) (Φ : Value → World → Prop), Ψs[j]? = some Φ → Φ (u j) w) → Q .normal (F u) w) :
    ∀ (fuel : Nat) (listed : Array Bool) (u : Nat → Value) (w : World), listed.size = ops.size → ((List.range ops.size).filter fun i => !listed.getD i false).length ≤ fuel → Below w0.heap.size w0 w →
      (∀ (j : Nat) (Φ : Value → World → Prop), listed.getD j false = true → Ψs[j]? = some Φ → Φ (u j) w) → wpAny P .any ops Q fuel listed (F u) w := by
  have fin : ∀ (listed : Array Bool) (u : Nat → Value) (w : World), listed.size = ops.size → Below w0.heap.size w0 w → (∀ (j : Nat) (Φ : Value → World → Prop), listed.getD j false = true → Ψs[j]? = some Φ → Φ (u j) w) → Region.ready .any ops listed = [] → Q .normal (F u) w := by
    intro listed u w hsz hb hv hr
    refine hend u w hb (fun j Φ hj => hv j Φ ?_ hj)
    have hlt : j < Ψs.length := by
      rcases Nat.lt_or_ge j Ψs.length with h | h
      · exact h
      · rw [List.getElem?_eq_none h] at hj; cases hj
    exact all_listed hB listed hsz hr ops.size j (by omega) (by omega)
  intro fuel
  induction fuel with
  | zero =>
    intro listed u w hsz hf hb hv
    have hr : Region.ready .any ops listed = [] := by
      cases hq : Region.ready .any ops listed with
      | nil => rfl
      | cons i rs =>
        have hm : i ∈ Region.ready .any ops listed := by rw [hq]; exact List.mem_cons_self
        rw [mem_ready] at hm
        obtain ⟨h1, o, ho, _⟩ := hm
        have hlt : i < ops.size := (Array.getElem?_eq_some_iff.1 ho).1
        have : i ∈ (List.range ops.size).filter fun i => !listed.getD i false := by
          rw [List.mem_filter]
          refine ⟨by simpa using hlt, ?_⟩
          have h2 : i < listed.size := by omega
          simpa [h2] using h1
        have h0 : ((List.range ops.size).filter fun i => !listed.getD i false) = [] := List.eq_nil_of_length_eq_zero (by omega)
        rw [h0] at this
        cases this
    exact ⟨hr, fin listed u w hsz hb hv hr⟩
  | succ fuel ih =>
    intro listed u w hsz hf hb hv
    refine ⟨fin listed u w hsz hb hv, fun i hi => ?_⟩
    have hi' := hi
    rw [mem_ready] at hi
    obtain ⟨h1, o, ho, hdep⟩ := hi
    have hlt : i < ops.size := (Array.getElem?_eq_some_iff.1 ho).1
    obtain ⟨Φ, hΦ, hg, hl⟩ := hs i o ho
    have hback := backB_spec hB ho
    have hwt : Waited (Ψs.take i) o.after.toList u w := by
      intro e he hbind Φ' hΦ'
      have he' : e ∈ o.after := by simpa using he
      have h2 := hback e he'
      rw [List.getElem?_take_of_lt h2] at hΦ'
      exact hv e.on Φ' (hdep e he' hbind) hΦ'
    have hlook := hl u w hb hwt
    have hsz' : (listed.setIfInBounds i true).size = ops.size := by simpa using hsz
    have hcount : ((List.range ops.size).filter fun j => !(listed.setIfInBounds i true).getD j false).length ≤ fuel := by
      have hle : ((List.range ops.size).filter fun j => !(listed.setIfInBounds i true).getD j false).length < ((List.range ops.size).filter fun j => !listed.getD j false).length := by
        have hsub : ((List.range ops.size).filter fun j => !(listed.setIfInBounds i true).getD j false) = (((List.range ops.size).filter fun j => !listed.getD j false).filter fun j => decide (j ≠ i)) := by
          rw [List.filter_filter]
          apply List.filter_congr
          intro j hj
          have h2 : i < listed.size := by omega
          by_cases hij : i = j
          · subst hij; simp [h2]
          · have : ¬ j = i := fun h => hij h.symm
            simp [Array.getElem?_setIfInBounds_ne hij, this]
        rw [hsub]
        refine List.length_filter_lt_length_iff_exists.2 ⟨i, ?_, by simp⟩
        rw [List.mem_filter]
        refine ⟨by simpa using hlt, ?_⟩
        have h2 : i < listed.size := by omega
        simpa [h2] using h1
      omega
    have next : ∀ v w', Below w.heap.size w w' → Φ v w' → wpAny P .any ops Q fuel (listed.setIfInBounds i true) ((F u).put o.dst v) w' := by
      intro v w' hb' hΦv
      rw [hF i o u v ho]
      refine ih _ _ _ hsz' hcount (hb.trans (hb'.mono hb.size)) ?_
      intro j Φ' hj hΦj
      by_cases hij : j = i
      · subst hij
        rw [hΦ] at hΦj
        injection hΦj with hΦj
        subst hΦj
        simpa [upd] using hΦv
      · have hj' : listed.getD j false = true := by rwa [getD_set_ne false (fun h => hij h.symm)] at hj
        have := hv j Φ' hj' hΦj
        have hlj : j < Ψs.length := by
          rcases Nat.lt_or_ge j Ψs.length with h | h
          · exact h
          · rw [List.getElem?_eq_none h] at hΦj; cases hΦj
        obtain ⟨Φ2, q1, q2, _⟩ := hs j ops[j] (Array.getElem?_eq_getElem (by omega))
        rw [hΦj] at q1
        injection q1 with q1
        subst q1
        have hu : upd u i v j = u j := by simp [upd, hij]
        rw [hu]
        exact q2 _ _ _ this hb'
    unfold wpOp
    rw [ho]
    simp only
    unfold Looked at hlook
    by_cases hw : Region.wanted o (yielded ops (F u).tmps) = true
    · rw [if_pos hw] at hlook ⊢
      exact .inl (hlook _ next)
    · rw [if_neg hw] at hlook ⊢
      exact next undef w (Below.refl _ _) hlook
/-- One look at each operation serves every order. -/
theorem wp_region_lex {id : Nat} {l : List Oper} {a : Act} (F : (Nat → Value) → Act) (hFl : ∀ u, fill u (l.map (·.dst)) 0 a = F u) (hm : P.follows .mixedOrders = true) (hB : backB l.toArray = true) (hap : apartB (l.map (·.dst)) = true)
    (h : Lex P l.toArray F w0 Q l 0 []) : (Code.region id l.toArray true).wp P Q a w0 := by
  obtain ⟨Ψs, h1, _, h3, h4⟩ := lex_words l 0 [] rfl h
  have hF : ∀ i o u v, l.toArray[i]? = some o → (F u).put o.dst v = F (upd u i v) := by
    intro i o u v ho
    rw [← hFl u, ← hFl (upd u i v)]
    have h2 : (l.map (·.dst))[i]? = some o.dst := by
      have h3 : l[i]? = some o := by simpa using ho
      simp [h3]
    have := fill_upd u v (l.map (·.dst)) 0 i a o.dst hap h2
    rwa [Nat.zero_add] at this
  have ha : a = F (fun i => match (l.map (·.dst))[i]? with | some (some d) => a.tmps.getD d undef | _ => undef) := by
    rw [← hFl]
    symm
    apply fill_self
    intro i d x hi hx
    simp only [Nat.zero_add, hi]
    simp [hx]
  refine wp_region_any hm ?_
  rw [ha]
  refine wpAny_lex (w0 := w0) hB Ψs (by simpa using h1) hF ?_ h4 _ _ _ _ (by simp) ?_ ⟨rfl, rfl, rfl, Nat.le_refl _, fun _ _ => rfl⟩ ?_
  · intro i o ho
    have := h3 i o (by simpa using ho)
    simpa using this
  · refine Nat.le_trans (List.length_filter_le _ _) (by simp)
  · intro j Φ hj _
    exfalso
    simp only [Array.getD_eq_getD_getElem?, Array.getElem?_replicate] at hj
    by_cases hjl : j < l.toArray.size
    · rw [if_pos hjl] at hj; cases hj
    · rw [if_neg hjl] at hj; cases hj
theorem Lex.is {o : Oper} {rest : List Oper} {i : Nat} {Φs : List (Value → World → Prop)} {c : Value} (h : ∀ u w, Below w0.heap.size w0 w → Waited Φs o.after.toList u w → Looked P ops F o (Is c) Q u w)
    (r : Lex P ops F w0 Q rest (i + 1) (Φs ++ [Is c])) : Lex P ops F w0 Q (o :: rest) i Φs := ⟨Is c, grows_is c, h, r⟩
theorem Lex.word {o : Oper} {rest : List Oper} {i : Nat} {Φs : List (Value → World → Prop)} (Φ : Value → World → Prop) (hg : Grows Φ) (h : ∀ u w, Below w0.heap.size w0 w → Waited Φs o.after.toList u w → Looked P ops F o Φ Q u w)
    (r : Lex P ops F w0 Q rest (i + 1) (Φs ++ [Φ])) : Lex P ops F w0 Q (o :: rest) i Φs := ⟨Φ, hg, h, r⟩
theorem Lex.nil {i : Nat} {Φs : List (Value → World → Prop)} (h : ∀ u w, Below w0.heap.size w0 w → (∀ (j : Nat) (Φ : Value → World → Prop), Φs[j]? = some Φ → Φ (u j) w) → Q .normal (F u) w) : Lex P ops F w0 Q [] i Φs := h
theorem looked_want {o : Oper} {Φ : Value → World → Prop} {u : Nat → Value} {w : World} (hw : Region.wanted o (yielded ops (F u).tmps) = true)
    (h : ∀ K : Act → World → Prop, (∀ v w', Below w.heap.size w w' → Φ v w' → K ((F u).put o.dst v) w') → o.wp P (F u) w K Q) : Looked P ops F o Φ Q u w := by
  unfold Looked
  rw [if_pos hw]
  exact h
theorem looked_skip {o : Oper} {Φ : Value → World → Prop} {u : Nat → Value} {w : World} (hw : Region.wanted o (yielded ops (F u).tmps) = false) (h : Φ undef w) : Looked P ops F o Φ Q u w := by
  unfold Looked
  rw [if_neg (by rw [hw]; exact Bool.false_ne_true)]
  exact h
end
end Go.Proofs.Ytchjcfbhpgigjaa
