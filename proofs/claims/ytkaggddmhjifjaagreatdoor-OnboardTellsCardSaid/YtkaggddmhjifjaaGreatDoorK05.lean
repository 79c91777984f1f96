/- Texts in one: RegionTL RegionTU. -/
import Derived.Test.YtkaggddmhjifjaaGreatDoorK01
set_option linter.unusedSimpArgs false
set_option linter.unusedVariables false
namespace Go.Proofs.YtkaggddmhjifjaaGreatDoor
open Go.RowKit
section
variable {P : Program} {ops : Array Oper} {F : (Nat → Value) → Act} {w0 : World} {Q : Exit → Act → World → Prop}
def LexTL (P : Program) (ops : Array Oper) (F : (Nat → Value) → Act) (G : World → World → Prop) (w0 : World) (T : Nat → World → World → Prop) (Pre : Nat → World → Prop) (Q : Exit → Act → World → Prop) : List Oper → Nat → List (Value → World → Prop) → Prop
 | [], _, _ => False
 | [o], n, Φs => (∀ i j (Φ : Value → World → Prop), i ≠ j → i < Φs.length → Φs[j]? = some Φ → ∀ v w w', Φ v w → T i w w' → Φ v w') ∧ ∀ u w, G w0 w → Pre n w → (∀ (i : Nat) (Φ : Value → World → Prop), Φs[i]? = some Φ → Φ (u i) w) → Region.wanted o (yielded ops (F u).tmps) = true ∧ ∀ K : Act → World → Prop, (∀ a w', Q .normal a w' → K a w') → o.wp P (F u) w K Q
 | o :: o' :: rest, i, Φs => ∃ Φ, (∀ u w, G w0 w → Pre i w → Waited Φs o.after.toList u w → LookedT P ops F (T i) o Φ Q u w) ∧ LexTL P ops F G w0 T Pre Q (o' :: rest) (i + 1) (Φs ++ [Φ])
theorem lextl_words {G : World → World → Prop} {T : Nat → World → World → Prop} {Pre : Nat → World → Prop} : ∀ (l : List Oper) (i : Nat) (Φs : List (Value → World → Prop)), Φs.length = i → LexTL P ops F G w0 T Pre Q l i Φs → ∃ Ψs : List (Value → World → Prop), 0 < l.length ∧ Ψs.length + 1 = i + l.length ∧ (∀ j, j < i → Ψs[j]? = Φs[j]?) ∧
  (∀ j o, l[j]? = some o → j + 1 < l.length → ∃ Φ, Ψs[i + j]? = some Φ ∧ ∀ u w, G w0 w → Pre (i + j) w → Waited (Ψs.take (i + j)) o.after.toList u w → LookedT P ops F (T (i + j)) o Φ Q u w) ∧
  (∀ i j (Φ : Value → World → Prop), i ≠ j → i < Ψs.length → Ψs[j]? = some Φ → ∀ v w w', Φ v w → T i w w' → Φ v w') ∧
  (∀ o, l[l.length - 1]? = some o → ∀ u w, G w0 w → Pre (i + (l.length - 1)) w → (∀ (j : Nat) (Φ : Value → World → Prop), Ψs[j]? = some Φ → Φ (u j) w) → Region.wanted o (yielded ops (F u).tmps) = true ∧ ∀ K : Act → World → Prop, (∀ a w', Q .normal a w' → K a w') → o.wp P (F u) w K Q)
 | [], i, Φs, hl, h => h.elim
 | [o], i, Φs, hl, h => ⟨Φs, by simp, by simpa using hl, fun _ _ => rfl, fun j o ho hj => by simp at hj, h.1, fun o' ho => by
   simp only [List.length_cons, List.length_nil, Nat.zero_add, Nat.sub_self, List.getElem?_cons_zero, Option.some.injEq] at ho
   subst ho
   intro u w hb hp
   exact h.2 u w hb (by simpa using hp)⟩
 | o :: o' :: rest, i, Φs, hl, h => by
  obtain ⟨Φ, hs, hr⟩ := h
  obtain ⟨Ψs, h0, h1, h2, h3, h5, h4⟩ := lextl_words (o' :: rest) (i + 1) (Φs ++ [Φ]) (by simp [hl]) hr
  have hat : Ψs[i]? = some Φ := by rw [h2 i (by omega)]; simp [hl]
  have htake : Ψs.take i = Φs := by
   apply List.ext_getElem?
   intro j
   by_cases hj : j < i
   ·
    rw [List.getElem?_take_of_lt hj, h2 j (by omega), List.getElem?_append_left (by omega)]
   ·
    rw [List.getElem?_eq_none (by simp; omega), List.getElem?_eq_none (by omega)]
  refine ⟨Ψs, by simp, by simp at h1 ⊢; omega, fun j hj => by rw [h2 j (by omega), List.getElem?_append_left (by omega)], ?_, h5, ?_⟩
  ·
   intro j p hp hj
   match j, hp with
   | 0, hp =>
    simp only [List.getElem?_cons_zero, Option.some.injEq] at hp
    subst hp
    refine ⟨Φ, by simpa using hat, fun u w hb hp hw => ?_⟩
    have hw' : Waited Φs o.after.toList u w := by rw [Nat.add_zero, htake] at hw; exact hw
    exact hs u w hb (by simpa using hp) hw'
   | j + 1, hp =>
    simp only [List.getElem?_cons_succ] at hp
    obtain ⟨Φ', a1, a3⟩ := h3 j p hp (by simp at hj ⊢; omega)
    rw [show i + 1 + j = i + (j + 1) by omega] at a1 a3
    exact ⟨Φ', a1, a3⟩
  ·
   intro p hp u w hb hpr
   refine h4 p (by simpa using hp) u w hb ?_
   have e : i + 1 + ((o' :: rest).length - 1) = i + ((o :: o' :: rest).length - 1) := by simp; omega
   rw [e]; exact hpr
theorem wpAny_lextl (hB : backB ops = true) (G : World → World → Prop) (hGt : ∀ a b c, G a b → G b c → G a c) (T : Nat → World → World → Prop) (hTG : ∀ i w w', T i w w' → G w w') (Pre : Nat → World → Prop) (hPst : ∀ i j w w', i ≠ j → Pre i w → T j w w' → Pre i w') (hA : awaitB ops = true) (m : Nat) (hm : ops.size = m + 1) (Ψs : List (Value → World → Prop)) (hlen : Ψs.length = m)
  (hF : ∀ i o u v, i < m → ops[i]? = some o → (F u).put o.dst v = F (upd u i v))
  (hst : ∀ i j (Φ : Value → World → Prop), i ≠ j → i < Ψs.length → Ψs[j]? = some Φ → ∀ v w w', Φ v w → T i w w' → Φ v w')
  (hs : ∀ i o, i < m → ops[i]? = some o → ∃ Φ, Ψs[i]? = some Φ ∧ ∀ u w, G w0 w → Pre i w → Waited (Ψs.take i) o.after.toList u w → LookedT P ops F (T i) o Φ Q u w)
  (hend : ∀ o, ops[m]? = some o → ∀ u w, G w0 w → Pre m w → (∀ (j : Nat) (Φ : Value → World → Prop), Ψs[j]? = some Φ → Φ (u j) w) → Region.wanted o (yielded ops (F u).tmps) = true ∧ ∀ K : Act → World → Prop, (∀ a w', Q .normal a w' → K a w') → o.wp P (F u) w K Q) :
  ∀ (fuel : Nat) (listed : Array Bool) (u : Nat → Value) (w : World), listed.size = ops.size → listed.getD m false = false → (∀ i o, ops[i]? = some o → listed.getD i false = true → ∀ e ∈ o.after, Region.binds .any e = true → listed.getD e.on false = true) →
   ((List.range ops.size).filter fun i => !listed.getD i false).length ≤ fuel → G w0 w → (∀ i, listed.getD i false = false → Pre i w) →
   (∀ (j : Nat) (Φ : Value → World → Prop), listed.getD j false = true → Ψs[j]? = some Φ → Φ (u j) w) → wpAny P .any ops Q fuel listed (F u) w := by
 intro fuel
 induction fuel with
 | zero =>
  intro listed u w hsz h0 _ hf hb hpre hv
  exfalso
  have : m ∈ (List.range ops.size).filter fun i => !listed.getD i false := by
   rw [List.mem_filter]
   exact ⟨by simp; omega, by rw [h0]; rfl⟩
  rw [List.eq_nil_of_length_eq_zero (by omega : ((List.range ops.size).filter fun i => !listed.getD i false).length = 0)] at this
  cases this
 | succ fuel ih =>
  intro listed u w hsz h0 hcl hf hb hpre hv
  refine ⟨fun hr => ?_, fun i hi => ?_⟩
  ·
   have := all_listed hB listed hsz hr ops.size m (by omega) (by omega)
   rw [h0] at this; cases this
  have hi' := hi
  rw [mem_ready] at hi
  obtain ⟨h1, o, ho, hdep⟩ := hi
  have hlt : i < ops.size := (Array.getElem?_eq_some_iff.1 ho).1
  have hback := backB_spec hB ho
  have hsz' : (listed.setIfInBounds i true).size = ops.size := by simpa using hsz
  by_cases him : i = m
  ·
   subst him
   have hall : ∀ k j, j < i → i - j ≤ k → listed.getD j false = true := by
    intro k
    induction k with
    | zero => intro j h1 h2; omega
    | succ k ihk =>
     intro j hj hk
     obtain ⟨j', o', hjj, ho', e, he, heq, hbind⟩ := awaitB_spec hA (i := j) (by omega)
     have hj'lt : j' < ops.size := (Array.getElem?_eq_some_iff.1 ho').1
     by_cases hji : j' = i
     ·
      subst hji
      rw [ho] at ho'
      injection ho' with ho'
      subst ho'
      rw [← heq]
      exact hdep e he hbind
     ·
      rw [← heq]
      exact hcl j' o' ho' (ihk j' (by omega) (by omega)) e he hbind
   have hv' : ∀ (j : Nat) (Φ : Value → World → Prop), Ψs[j]? = some Φ → Φ (u j) w := by
    intro j Φ hj
    have hjl : j < Ψs.length := by
     rcases Nat.lt_or_ge j Ψs.length with h | h
     ·
      exact h
     ·
      rw [List.getElem?_eq_none h] at hj; cases hj
    exact hv j Φ (hall _ j (by omega) (Nat.le_refl _)) hj
   obtain ⟨hw, hwp⟩ := hend o ho u w hb (hpre i h0) hv'
   unfold wpOp
   rw [ho]
   simp only
   rw [if_pos hw]
   refine .inl (hwp _ fun a w' hQ => wpAny_done ?_ hQ)
   have hall' : ∀ j, j < ops.size → (listed.setIfInBounds i true).getD j false = true := by
    intro j hj
    by_cases hji : i = j
    ·
     subst hji
     have h2 : i < listed.size := by omega
     simp [h2]
    ·
     rw [getD_set_ne false hji]
     exact hall _ j (by omega) (Nat.le_refl _)
   cases hr : Region.ready .any ops (listed.setIfInBounds i true) with
   | nil => rfl
   | cons j js =>
    exfalso
    have hj : j ∈ Region.ready .any ops (listed.setIfInBounds i true) := by rw [hr]; exact List.mem_cons_self
    rw [mem_ready] at hj
    obtain ⟨q1, q2, q3, _⟩ := hj
    have hjs : j < ops.size := (Array.getElem?_eq_some_iff.1 q3).1
    have := hall' j hjs
    have h2 : j < (listed.setIfInBounds i true).size := by omega
    rw [Array.getD_eq_getD_getElem?, Array.getElem?_eq_getElem h2] at this
    simp only [Option.getD_some] at this
    rw [Array.getD_eq_getD_getElem?, Array.getElem?_eq_getElem h2, Option.getD_some, this] at q1
    cases q1
  ·
   obtain ⟨Φ, hΦ, hl⟩ := hs i o (by omega) ho
   have hwt : Waited (Ψs.take i) o.after.toList u w := by
    intro e he hbind Φ' hΦ'
    have he' : e ∈ o.after := by simpa using he
    have h2 := hback e he'
    rw [List.getElem?_take_of_lt h2] at hΦ'
    exact hv e.on Φ' (hdep e he' hbind) hΦ'
   have hi0 : listed.getD i false = false := by
    have h2 : i < listed.size := by omega
    rw [Array.getD_eq_getD_getElem?, Array.getElem?_eq_getElem h2] at h1 ⊢
    simpa using h1
   have hlook := hl u w hb (hpre i hi0) hwt
   have hcount : ((List.range ops.size).filter fun j => !(listed.setIfInBounds i true).getD j false).length ≤ fuel := by
    have hle : ((List.range ops.size).filter fun j => !(listed.setIfInBounds i true).getD j false).length < ((List.range ops.size).filter fun j => !listed.getD j false).length := by
     have hsub : ((List.range ops.size).filter fun j => !(listed.setIfInBounds i true).getD j false) = (((List.range ops.size).filter fun j => !listed.getD j false).filter fun j => decide (j ≠ i)) := by
      rw [List.filter_filter]
      apply List.filter_congr
      intro j hj
      have h2 : i < listed.size := by omega
      by_cases hij : i = j
      ·
       subst hij; simp [h2]
      ·
       have : ¬ j = i := fun h => hij h.symm
       simp [Array.getElem?_setIfInBounds_ne hij, this]
     rw [hsub]
     refine List.length_filter_lt_length_iff_exists.2 ⟨i, ?_, by simp⟩
     rw [List.mem_filter]
     refine ⟨by simpa using hlt, ?_⟩
     have h2 : i < listed.size := by omega
     simpa [h2] using h1
    omega
   have next : ∀ v w', G w0 w' → (∀ k, k ≠ i → listed.getD k false = false → Pre k w') → (∀ (j : Nat) (Φ' : Value → World → Prop), j ≠ i → listed.getD j false = true → Ψs[j]? = some Φ' → Φ' (u j) w') → Φ v w' → wpAny P .any ops Q fuel (listed.setIfInBounds i true) ((F u).put o.dst v) w' := by
    intro v w' hb' hpre' hkeep hΦv
    rw [hF i o u v (by omega) ho]
    refine ih _ _ _ hsz' (by rw [getD_set_ne false him]; exact h0) ?_ hcount hb' ?_ ?_
    ·
     intro j o' ho' hj e he hbind
     have up : ∀ k, listed.getD k false = true → (listed.setIfInBounds i true).getD k false = true := by
      intro k hk
      by_cases hik : i = k
      ·
       subst hik
       have h2 : i < listed.size := by omega
       simp [h2]
      ·
       rw [getD_set_ne false hik]; exact hk
     by_cases hij : i = j
     ·
      subst hij
      rw [ho] at ho'
      injection ho' with ho'
      subst ho'
      exact up _ (hdep e he hbind)
     ·
      rw [getD_set_ne false hij] at hj
      exact up _ (hcl j o' ho' hj e he hbind)
    ·
     intro k hk
     by_cases hik : i = k
     ·
      subst hik
      have h2 : i < listed.size := by omega
      simp [h2] at hk
     ·
      rw [getD_set_ne false hik] at hk
      exact hpre' k (fun h => hik h.symm) hk
    intro j Φ' hj hΦj
    by_cases hij : j = i
    ·
     subst hij
     rw [hΦ] at hΦj
     injection hΦj with hΦj
     subst hΦj
     simpa [upd] using hΦv
    ·
     have hj' : listed.getD j false = true := by rwa [getD_set_ne false (fun h => hij h.symm)] at hj
     have hu : upd u i v j = u j := by simp [upd, hij]
     rw [hu]
     exact hkeep j Φ' hij hj' hΦj
   unfold wpOp
   rw [ho]
   simp only
   unfold LookedT at hlook
   by_cases hw : Region.wanted o (yielded ops (F u).tmps) = true
   ·
    rw [if_pos hw] at hlook ⊢
    refine .inl (hlook _ fun v w' ht hΦv => next v w' (hGt _ _ _ hb (hTG i _ _ ht)) (fun k hki hk => hPst k i _ _ hki (hpre k hk) ht) ?_ hΦv)
    intro j Φ' hij hj hΦj
    exact hst i j Φ' (fun h => hij h.symm) (by omega) hΦj _ _ _ (hv j Φ' hj hΦj) ht
   ·
    rw [if_neg hw] at hlook ⊢
    exact next undef w hb (fun k _ hk => hpre k hk) (fun j Φ' _ hj hΦj => hv j Φ' hj hΦj) hlook
theorem wp_region_lextf {id : Nat} {l : List Oper} {a : Act} (G : World → World → Prop) (hGd : ∀ w : World, G w w.drew) (hGt : ∀ a b c, G a b → G b c → G a c) (T : Nat → World → World → Prop) (hTG : ∀ i w w', T i w w' → G w w') (Pre : Nat → World → Prop) (hP0 : ∀ i, Pre i w0.drew) (hPst : ∀ i j w w', i ≠ j → Pre i w → T j w w' → Pre i w') (F : (Nat → Value) → Act) (hFl : ∀ u, fill u ((l.map (·.dst)).dropLast) 0 a = F u) (hm : P.follows .mixedOrders = true) (hB : backB l.toArray = true) (hA : awaitB l.toArray = true) (hap : apartB ((l.map (·.dst)).dropLast) = true)
  (h : LexTL P l.toArray F G w0 T Pre Q l 0 []) : (Code.region id l.toArray true).wp P Q a w0 := by
 obtain ⟨Ψs, h0, h1, _, h3, h5, h4⟩ := lextl_words l 0 [] rfl h
 have hF : ∀ i o u v, i < l.length - 1 → l.toArray[i]? = some o → (F u).put o.dst v = F (upd u i v) := by
  intro i o u v hi ho
  rw [← hFl u, ← hFl (upd u i v)]
  have h2 : ((l.map (·.dst)).dropLast)[i]? = some o.dst := by
   have h3 : l[i]? = some o := by simpa using ho
   rw [List.getElem?_dropLast, if_pos (by simpa using hi)]
   simp [h3]
  have := fill_upd u v ((l.map (·.dst)).dropLast) 0 i a o.dst hap h2
  rwa [Nat.zero_add] at this
 have ha : a = F (fun i => match ((l.map (·.dst)).dropLast)[i]? with | some (some d) => a.tmps.getD d undef | _ => undef) := by
  rw [← hFl]
  symm
  apply fill_self
  intro i d x hi hx
  simp only [Nat.zero_add, hi]
  simp [hx]
 refine wp_region_any hm ?_
 rw [ha]
 refine wpAny_lextl (w0 := w0) hB G hGt T hTG Pre hPst hA (l.length - 1) (by simp; omega) Ψs (by omega) hF h5 ?_ ?_ _ _ _ _ (by simp) ?_ ?_ ?_ (hGd _) (fun i _ => hP0 i) ?_
 ·
  intro i o hi ho
  have := h3 i o (by simpa using ho) (by omega)
  simpa using this
 ·
  intro o ho
  intro u w hb hp
  exact h4 o (by simpa using ho) u w hb (by rw [Nat.zero_add]; exact hp)
 ·
  simp only [Array.getD_eq_getD_getElem?, Array.getElem?_replicate]
  split <;> rfl
 ·
  intro i o _ hi
  exfalso
  simp only [Array.getD_eq_getD_getElem?, Array.getElem?_replicate] at hi
  split at hi <;> cases hi
 ·
  refine Nat.le_trans (List.length_filter_le _ _) (by simp)
 ·
  intro j Φ hj _
  exfalso
  simp only [Array.getD_eq_getD_getElem?, Array.getElem?_replicate] at hj
  split at hj <;> cases hj
theorem LexTL.is {o o' : Oper} {rest : List Oper} {i : Nat} {Φs : List (Value → World → Prop)} {G : World → World → Prop} {T : Nat → World → World → Prop} {Pre : Nat → World → Prop} {c : Value} (h : ∀ u w, G w0 w → Pre i w → Waited Φs o.after.toList u w → LookedT P ops F (T i) o (Is c) Q u w)
  (r : LexTL P ops F G w0 T Pre Q (o' :: rest) (i + 1) (Φs ++ [Is c])) : LexTL P ops F G w0 T Pre Q (o :: o' :: rest) i Φs := ⟨Is c, h, r⟩
theorem LexTL.word {o o' : Oper} {rest : List Oper} {i : Nat} {Φs : List (Value → World → Prop)} {G : World → World → Prop} {T : Nat → World → World → Prop} {Pre : Nat → World → Prop} (Φ : Value → World → Prop) (h : ∀ u w, G w0 w → Pre i w → Waited Φs o.after.toList u w → LookedT P ops F (T i) o Φ Q u w)
  (r : LexTL P ops F G w0 T Pre Q (o' :: rest) (i + 1) (Φs ++ [Φ])) : LexTL P ops F G w0 T Pre Q (o :: o' :: rest) i Φs := ⟨Φ, h, r⟩
theorem LexTL.last {o : Oper} {i : Nat} {Φs : List (Value → World → Prop)} {G : World → World → Prop} {T : Nat → World → World → Prop} {Pre : Nat → World → Prop} (hst : ∀ i j (Φ : Value → World → Prop), i ≠ j → i < Φs.length → Φs[j]? = some Φ → ∀ v w w', Φ v w → T i w w' → Φ v w')
  (h : ∀ u w, G w0 w → Pre i w → (∀ (j : Nat) (Φ : Value → World → Prop), Φs[j]? = some Φ → Φ (u j) w) → Region.wanted o (yielded ops (F u).tmps) = true ∧ ∀ K : Act → World → Prop, (∀ a w', Q .normal a w' → K a w') → o.wp P (F u) w K Q) : LexTL P ops F G w0 T Pre Q [o] i Φs := ⟨hst, h⟩
end
end Go.Proofs.YtkaggddmhjifjaaGreatDoor
namespace Go.Proofs.YtkaggddmhjifjaaGreatDoor
open Go.RowKit
section
variable {P : Program} {ops : Array Oper} {F : (Nat → Value) → Act} {w0 : World} {Q : Exit → Act → World → Prop}
def FreeOf (ops : Array Oper) (i j : Nat) : Prop := ∀ o, ops[j]? = some o → ∀ e ∈ o.after, Region.binds .any e = true → e.on ≠ i
def WaitedU (Φs : List ((Nat → Value) → World → Prop)) (es : List Edge) (u : Nat → Value) (w : World) : Prop := ∀ e ∈ es, Region.binds .any e = true → ∀ Φ : (Nat → Value) → World → Prop, Φs[e.on]? = some Φ → Φ u w
def LookedU (P : Program) (ops : Array Oper) (F : (Nat → Value) → Act) (T : World → World → Prop) (i : Nat) (o : Oper) (Φ : (Nat → Value) → World → Prop) (Q : Exit → Act → World → Prop) (u : Nat → Value) (w : World) : Prop :=
 if Region.wanted o (yielded ops (F u).tmps) = true then ∀ K : Act → World → Prop, (∀ v w', T w w' → Φ (upd u i v) w' → K ((F u).put o.dst v) w') → o.wp P (F u) w K Q
 else Φ (upd u i undef) w
theorem lookedU_want {o : Oper} {i : Nat} {Φ : (Nat → Value) → World → Prop} {u : Nat → Value} {w : World} {T : World → World → Prop} (hw : Region.wanted o (yielded ops (F u).tmps) = true)
  (h : ∀ K : Act → World → Prop, (∀ v w', T w w' → Φ (upd u i v) w' → K ((F u).put o.dst v) w') → o.wp P (F u) w K Q) : LookedU P ops F T i o Φ Q u w := by
 unfold LookedU
 rw [if_pos hw]
 exact h
def LexTU (P : Program) (ops : Array Oper) (F : (Nat → Value) → Act) (G : World → World → Prop) (w0 : World) (T : Nat → World → World → Prop) (Pre : Nat → World → Prop) (Q : Exit → Act → World → Prop) : List Oper → Nat → List ((Nat → Value) → World → Prop) → Prop
 | [], _, _ => False
 | [o], n, Φs => (∀ i j (Φ : (Nat → Value) → World → Prop), i ≠ j → i < Φs.length → FreeOf ops i j → Φs[j]? = some Φ → ∀ u v w w', Φ u w → T i w w' → Φ (upd u i v) w') ∧ ∀ u w, G w0 w → Pre n w → (∀ (i : Nat) (Φ : (Nat → Value) → World → Prop), Φs[i]? = some Φ → Φ u w) → Region.wanted o (yielded ops (F u).tmps) = true ∧ ∀ K : Act → World → Prop, (∀ a w', Q .normal a w' → K a w') → o.wp P (F u) w K Q
 | o :: o' :: rest, i, Φs => ∃ Φ, (∀ u w, G w0 w → Pre i w → WaitedU Φs o.after.toList u w → LookedU P ops F (T i) i o Φ Q u w) ∧ LexTU P ops F G w0 T Pre Q (o' :: rest) (i + 1) (Φs ++ [Φ])
theorem lextu_words {G : World → World → Prop} {T : Nat → World → World → Prop} {Pre : Nat → World → Prop} : ∀ (l : List Oper) (i : Nat) (Φs : List ((Nat → Value) → World → Prop)), Φs.length = i → LexTU P ops F G w0 T Pre Q l i Φs → ∃ Ψs : List ((Nat → Value) → World → Prop), 0 < l.length ∧ Ψs.length + 1 = i + l.length ∧ (∀ j, j < i → Ψs[j]? = Φs[j]?) ∧
  (∀ j o, l[j]? = some o → j + 1 < l.length → ∃ Φ, Ψs[i + j]? = some Φ ∧ ∀ u w, G w0 w → Pre (i + j) w → WaitedU (Ψs.take (i + j)) o.after.toList u w → LookedU P ops F (T (i + j)) (i + j) o Φ Q u w) ∧
  (∀ i j (Φ : (Nat → Value) → World → Prop), i ≠ j → i < Ψs.length → FreeOf ops i j → Ψs[j]? = some Φ → ∀ u v w w', Φ u w → T i w w' → Φ (upd u i v) w') ∧
  (∀ o, l[l.length - 1]? = some o → ∀ u w, G w0 w → Pre (i + (l.length - 1)) w → (∀ (j : Nat) (Φ : (Nat → Value) → World → Prop), Ψs[j]? = some Φ → Φ u w) → Region.wanted o (yielded ops (F u).tmps) = true ∧ ∀ K : Act → World → Prop, (∀ a w', Q .normal a w' → K a w') → o.wp P (F u) w K Q)
 | [], i, Φs, hl, h => h.elim
 | [o], i, Φs, hl, h => ⟨Φs, by simp, by simpa using hl, fun _ _ => rfl, fun j o ho hj => by simp at hj, h.1, fun o' ho => by
   simp only [List.length_cons, List.length_nil, Nat.zero_add, Nat.sub_self, List.getElem?_cons_zero, Option.some.injEq] at ho
   subst ho
   intro u w hb hp
   exact h.2 u w hb (by simpa using hp)⟩
 | o :: o' :: rest, i, Φs, hl, h => by
  obtain ⟨Φ, hs, hr⟩ := h
  obtain ⟨Ψs, h0, h1, h2, h3, h5, h4⟩ := lextu_words (o' :: rest) (i + 1) (Φs ++ [Φ]) (by simp [hl]) hr
  have hat : Ψs[i]? = some Φ := by rw [h2 i (by omega)]; simp [hl]
  have htake : Ψs.take i = Φs := by
   apply List.ext_getElem?
   intro j
   by_cases hj : j < i
   ·
    rw [List.getElem?_take_of_lt hj, h2 j (by omega), List.getElem?_append_left (by omega)]
   ·
    rw [List.getElem?_eq_none (by simp; omega), List.getElem?_eq_none (by omega)]
  refine ⟨Ψs, by simp, by simp at h1 ⊢; omega, fun j hj => by rw [h2 j (by omega), List.getElem?_append_left (by omega)], ?_, h5, ?_⟩
  ·
   intro j p hp hj
   match j, hp with
   | 0, hp =>
    simp only [List.getElem?_cons_zero, Option.some.injEq] at hp
    subst hp
    refine ⟨Φ, by simpa using hat, fun u w hb hp hw => ?_⟩
    have hw' : WaitedU Φs o.after.toList u w := by rw [Nat.add_zero, htake] at hw; exact hw
    exact hs u w hb (by simpa using hp) hw'
   | j + 1, hp =>
    simp only [List.getElem?_cons_succ] at hp
    obtain ⟨Φ', a1, a3⟩ := h3 j p hp (by simp at hj ⊢; omega)
    rw [show i + 1 + j = i + (j + 1) by omega] at a1 a3
    exact ⟨Φ', a1, a3⟩
  ·
   intro p hp u w hb hpr
   refine h4 p (by simpa using hp) u w hb ?_
   have e : i + 1 + ((o' :: rest).length - 1) = i + ((o :: o' :: rest).length - 1) := by simp; omega
   rw [e]; exact hpr
theorem wpAny_lextu (hB : backB2 ops = true) (G : World → World → Prop) (hGt : ∀ a b c, G a b → G b c → G a c) (T : Nat → World → World → Prop) (hTG : ∀ i w w', T i w w' → G w w') (hTr : ∀ i w, T i w w) (Pre : Nat → World → Prop) (hPst : ∀ i j w w', i ≠ j → FreeOf ops i j → Pre i w → T j w w' → Pre i w') (hA : awaitB ops = true) (m : Nat) (hm : ops.size = m + 1) (Ψs : List ((Nat → Value) → World → Prop)) (hlen : Ψs.length = m)
  (hF : ∀ i o u v, ops[i]? = some o → (F u).put o.dst v = F (upd u i v))
  (hst : ∀ i j (Φ : (Nat → Value) → World → Prop), i ≠ j → i < Ψs.length → FreeOf ops i j → Ψs[j]? = some Φ → ∀ u v w w', Φ u w → T i w w' → Φ (upd u i v) w')
  (hs : ∀ i o, i < m → ops[i]? = some o → ∃ Φ, Ψs[i]? = some Φ ∧ ∀ u w, G w0 w → Pre i w → WaitedU (Ψs.take i) o.after.toList u w → LookedU P ops F (T i) i o Φ Q u w)
  (hend : ∀ o, ops[m]? = some o → ∀ u w, G w0 w → Pre m w → (∀ (j : Nat) (Φ : (Nat → Value) → World → Prop), Ψs[j]? = some Φ → Φ u w) → Region.wanted o (yielded ops (F u).tmps) = true ∧ ∀ K : Act → World → Prop, (∀ a w', Q .normal a w' → K a w') → o.wp P (F u) w K Q) :
  ∀ (fuel : Nat) (listed : Array Bool) (u : Nat → Value) (w : World), listed.size = ops.size → listed.getD m false = false → (∀ i o, ops[i]? = some o → listed.getD i false = true → ∀ e ∈ o.after, Region.binds .any e = true → listed.getD e.on false = true) →
   ((List.range ops.size).filter fun i => !listed.getD i false).length ≤ fuel → G w0 w → (∀ i, listed.getD i false = false → Pre i w) →
   (∀ (j : Nat) (Φ : (Nat → Value) → World → Prop), listed.getD j false = true → Ψs[j]? = some Φ → Φ u w) → wpAny P .any ops Q fuel listed (F u) w := by
 intro fuel
 induction fuel with
 | zero =>
  intro listed u w hsz h0 _ hf hb hpre hv
  exfalso
  have : m ∈ (List.range ops.size).filter fun i => !listed.getD i false := by
   rw [List.mem_filter]
   exact ⟨by simp; omega, by rw [h0]; rfl⟩
  rw [List.eq_nil_of_length_eq_zero (by omega : ((List.range ops.size).filter fun i => !listed.getD i false).length = 0)] at this
  cases this
 | succ fuel ih =>
  intro listed u w hsz h0 hcl hf hb hpre hv
  refine ⟨fun hr => ?_, fun i hi => ?_⟩
  ·
   have := all_listed2 hB listed hsz hr ops.size m (by omega) (by omega)
   rw [h0] at this; cases this
  have hi' := hi
  rw [mem_ready] at hi
  obtain ⟨h1, o, ho, hdep⟩ := hi
  have hlt : i < ops.size := (Array.getElem?_eq_some_iff.1 ho).1
  have hback := backB2_spec hB ho
  have hsz' : (listed.setIfInBounds i true).size = ops.size := by simpa using hsz
  by_cases him : i = m
  ·
   subst him
   have hall : ∀ k j, j < i → i - j ≤ k → listed.getD j false = true := by
    intro k
    induction k with
    | zero => intro j h1 h2; omega
    | succ k ihk =>
     intro j hj hk
     obtain ⟨j', o', hjj, ho', e, he, heq, hbind⟩ := awaitB_spec hA (i := j) (by omega)
     have hj'lt : j' < ops.size := (Array.getElem?_eq_some_iff.1 ho').1
     by_cases hji : j' = i
     ·
      subst hji
      rw [ho] at ho'
      injection ho' with ho'
      subst ho'
      rw [← heq]
      exact hdep e he hbind
     ·
      rw [← heq]
      exact hcl j' o' ho' (ihk j' (by omega) (by omega)) e he hbind
   have hv' : ∀ (j : Nat) (Φ : (Nat → Value) → World → Prop), Ψs[j]? = some Φ → Φ u w := by
    intro j Φ hj
    have hjl : j < Ψs.length := by
     rcases Nat.lt_or_ge j Ψs.length with h | h
     ·
      exact h
     ·
      rw [List.getElem?_eq_none h] at hj; cases hj
    exact hv j Φ (hall _ j (by omega) (Nat.le_refl _)) hj
   obtain ⟨hw, hwp⟩ := hend o ho u w hb (hpre i h0) hv'
   unfold wpOp
   rw [ho]
   simp only
   rw [if_pos hw]
   refine .inl (hwp _ fun a w' hQ => wpAny_done ?_ hQ)
   have hall' : ∀ j, j < ops.size → (listed.setIfInBounds i true).getD j false = true := by
    intro j hj
    by_cases hji : i = j
    ·
     subst hji
     have h2 : i < listed.size := by omega
     simp [h2]
    ·
     rw [getD_set_ne false hji]
     exact hall _ j (by omega) (Nat.le_refl _)
   cases hr : Region.ready .any ops (listed.setIfInBounds i true) with
   | nil => rfl
   | cons j js =>
    exfalso
    have hj : j ∈ Region.ready .any ops (listed.setIfInBounds i true) := by rw [hr]; exact List.mem_cons_self
    rw [mem_ready] at hj
    obtain ⟨q1, q2, q3, _⟩ := hj
    have hjs : j < ops.size := (Array.getElem?_eq_some_iff.1 q3).1
    have := hall' j hjs
    have h2 : j < (listed.setIfInBounds i true).size := by omega
    rw [Array.getD_eq_getD_getElem?, Array.getElem?_eq_getElem h2] at this
    simp only [Option.getD_some] at this
    rw [Array.getD_eq_getD_getElem?, Array.getElem?_eq_getElem h2, Option.getD_some, this] at q1
    cases q1
  ·
   obtain ⟨Φ, hΦ, hl⟩ := hs i o (by omega) ho
   have hwt : WaitedU (Ψs.take i) o.after.toList u w := by
    intro e he hbind Φ' hΦ'
    have he' : e ∈ o.after := by simpa using he
    have h2 := hback e he' hbind
    rw [List.getElem?_take_of_lt h2] at hΦ'
    exact hv e.on Φ' (hdep e he' hbind) hΦ'
   have hi0 : listed.getD i false = false := by
    have h2 : i < listed.size := by omega
    rw [Array.getD_eq_getD_getElem?, Array.getElem?_eq_getElem h2] at h1 ⊢
    simpa using h1
   have hlook := hl u w hb (hpre i hi0) hwt
   have hfree : ∀ j, listed.getD j false = true → FreeOf ops i j := by
    intro j hj o' ho' e he hbind heq
    have := hcl j o' ho' hj e he hbind
    rw [heq, hi0] at this
    cases this
   have hcount : ((List.range ops.size).filter fun j => !(listed.setIfInBounds i true).getD j false).length ≤ fuel := by
    have hle : ((List.range ops.size).filter fun j => !(listed.setIfInBounds i true).getD j false).length < ((List.range ops.size).filter fun j => !listed.getD j false).length := by
     have hsub : ((List.range ops.size).filter fun j => !(listed.setIfInBounds i true).getD j false) = (((List.range ops.size).filter fun j => !listed.getD j false).filter fun j => decide (j ≠ i)) := by
      rw [List.filter_filter]
      apply List.filter_congr
      intro j hj
      have h2 : i < listed.size := by omega
      by_cases hij : i = j
      ·
       subst hij; simp [h2]
      ·
       have : ¬ j = i := fun h => hij h.symm
       simp [Array.getElem?_setIfInBounds_ne hij, this]
     rw [hsub]
     refine List.length_filter_lt_length_iff_exists.2 ⟨i, ?_, by simp⟩
     rw [List.mem_filter]
     refine ⟨by simpa using hlt, ?_⟩
     have h2 : i < listed.size := by omega
     simpa [h2] using h1
    omega
   have next : ∀ v w', G w0 w' → (∀ k, k ≠ i → listed.getD k false = false → Pre k w') → (∀ (j : Nat) (Φ' : (Nat → Value) → World → Prop), j ≠ i → listed.getD j false = true → Ψs[j]? = some Φ' → Φ' (upd u i v) w') → Φ (upd u i v) w' → wpAny P .any ops Q fuel (listed.setIfInBounds i true) ((F u).put o.dst v) w' := by
    intro v w' hb' hpre' hkeep hΦv
    rw [hF i o u v ho]
    refine ih _ _ _ hsz' (by rw [getD_set_ne false him]; exact h0) ?_ hcount hb' ?_ ?_
    ·
     intro j o' ho' hj e he hbind
     have up : ∀ k, listed.getD k false = true → (listed.setIfInBounds i true).getD k false = true := by
      intro k hk
      by_cases hik : i = k
      ·
       subst hik
       have h2 : i < listed.size := by omega
       simp [h2]
      ·
       rw [getD_set_ne false hik]; exact hk
     by_cases hij : i = j
     ·
      subst hij
      rw [ho] at ho'
      injection ho' with ho'
      subst ho'
      exact up _ (hdep e he hbind)
     ·
      rw [getD_set_ne false hij] at hj
      exact up _ (hcl j o' ho' hj e he hbind)
    ·
     intro k hk
     by_cases hik : i = k
     ·
      subst hik
      have h2 : i < listed.size := by omega
      simp [h2] at hk
     ·
      rw [getD_set_ne false hik] at hk
      exact hpre' k (fun h => hik h.symm) hk
    intro j Φ' hj hΦj
    by_cases hij : j = i
    ·
     subst hij
     rw [hΦ] at hΦj
     injection hΦj with hΦj
     subst hΦj
     exact hΦv
    ·
     have hj' : listed.getD j false = true := by rwa [getD_set_ne false (fun h => hij h.symm)] at hj
     exact hkeep j Φ' hij hj' hΦj
   unfold wpOp
   rw [ho]
   simp only
   unfold LookedU at hlook
   by_cases hw : Region.wanted o (yielded ops (F u).tmps) = true
   ·
    rw [if_pos hw] at hlook ⊢
    refine .inl (hlook _ fun v w' ht hΦv => next v w' (hGt _ _ _ hb (hTG i _ _ ht)) (fun k hki hk => hPst k i _ _ hki (fun o' ho' e he hbind heq => by rw [ho] at ho'; injection ho' with ho'; subst ho'; have := hdep e he hbind; rw [heq, hk] at this; cases this) (hpre k hk) ht) ?_ hΦv)
    intro j Φ' hij hj hΦj
    exact hst i j Φ' (fun h => hij h.symm) (by omega) (hfree j hj) hΦj _ _ _ _ (hv j Φ' hj hΦj) ht
   ·
    rw [if_neg hw] at hlook ⊢
    exact next undef w hb (fun k _ hk => hpre k hk) (fun j Φ' hij hj hΦj => hst i j Φ' (fun h => hij h.symm) (by omega) (hfree j hj) hΦj _ _ _ _ (hv j Φ' hj hΦj) (hTr i w)) hlook
theorem wp_region_lextv {id : Nat} {l : List Oper} {a : Act} (G : World → World → Prop) (hGd : ∀ w : World, G w w.drew) (hGt : ∀ a b c, G a b → G b c → G a c) (T : Nat → World → World → Prop) (hTG : ∀ i w w', T i w w' → G w w') (hTr : ∀ i w, T i w w) (Pre : Nat → World → Prop) (hP0 : ∀ i, Pre i w0.drew) (hPst : ∀ i j w w', i ≠ j → FreeOf l.toArray i j → Pre i w → T j w w' → Pre i w') (F : (Nat → Value) → Act) (hFl : ∀ u, fill u (l.map (·.dst)) 0 a = F u) (hm : P.follows .mixedOrders = true) (hB : backB2 l.toArray = true) (hA : awaitB l.toArray = true) (hap : apartB (l.map (·.dst)) = true)
  (h : LexTU P l.toArray F G w0 T Pre Q l 0 []) : (Code.region id l.toArray true).wp P Q a w0 := by
 obtain ⟨Ψs, h0, h1, _, h3, h5, h4⟩ := lextu_words l 0 [] rfl h
 have hF : ∀ i o u v, l.toArray[i]? = some o → (F u).put o.dst v = F (upd u i v) := by
  intro i o u v ho
  rw [← hFl u, ← hFl (upd u i v)]
  have h2 : (l.map (·.dst))[i]? = some o.dst := by
   have h3 : l[i]? = some o := by simpa using ho
   simp [h3]
  have := fill_upd u v (l.map (·.dst)) 0 i a o.dst hap h2
  rwa [Nat.zero_add] at this
 have ha : a = F (fun i => match (l.map (·.dst))[i]? with | some (some d) => a.tmps.getD d undef | _ => undef) := by
  rw [← hFl]
  symm
  apply fill_self
  intro i d x hi hx
  simp only [Nat.zero_add, hi]
  simp [hx]
 refine wp_region_any hm ?_
 rw [ha]
 refine wpAny_lextu (w0 := w0) hB G hGt T hTG hTr Pre hPst hA (l.length - 1) (by simp; omega) Ψs (by omega) hF h5 ?_ ?_ _ _ _ _ (by simp) ?_ ?_ ?_ (hGd _) (fun i _ => hP0 i) ?_
 ·
  intro i o hi ho
  have := h3 i o (by simpa using ho) (by omega)
  simpa using this
 ·
  intro o ho
  intro u w hb hp
  exact h4 o (by simpa using ho) u w hb (by rw [Nat.zero_add]; exact hp)
 ·
  simp only [Array.getD_eq_getD_getElem?, Array.getElem?_replicate]
  split <;> rfl
 ·
  intro i o _ hi
  exfalso
  simp only [Array.getD_eq_getD_getElem?, Array.getElem?_replicate] at hi
  split at hi <;> cases hi
 ·
  refine Nat.le_trans (List.length_filter_le _ _) (by simp)
 ·
  intro j Φ hj _
  exfalso
  simp only [Array.getD_eq_getD_getElem?, Array.getElem?_replicate] at hj
  split at hj <;> cases hj
theorem wp_region_lextu {id : Nat} {l : List Oper} {a : Act} (G : World → World → Prop) (hGd : ∀ w : World, G w w.drew) (hGt : ∀ a b c, G a b → G b c → G a c) (T : Nat → World → World → Prop) (hTG : ∀ i w w', T i w w' → G w w') (hTr : ∀ i w, T i w w) (Pre : Nat → World → Prop) (hP0 : ∀ i, Pre i w0.drew) (hPst : ∀ i j w w', i ≠ j → Pre i w → T j w w' → Pre i w') (F : (Nat → Value) → Act) (hFl : ∀ u, fill u (l.map (·.dst)) 0 a = F u) (hm : P.follows .mixedOrders = true) (hB : backB2 l.toArray = true) (hA : awaitB l.toArray = true) (hap : apartB (l.map (·.dst)) = true)
  (h : LexTU P l.toArray F G w0 T Pre Q l 0 []) : (Code.region id l.toArray true).wp P Q a w0 :=
 wp_region_lextv G hGd hGt T hTG hTr Pre hP0 (fun i j w w' hij _ => hPst i j w w' hij) F hFl hm hB hA hap h
def Own1 (i : Nat) (Φ : Value → World → Prop) : (Nat → Value) → World → Prop := fun u w => Φ (u i) w
theorem upd_self (u : Nat → Value) (i : Nat) (v : Value) : upd u i v i = v := by simp [upd]
theorem upd_other (u : Nat → Value) {i j : Nat} (v : Value) (h : j ≠ i) : upd u i v j = u j := by simp [upd, h]
theorem LexTU.word {o o' : Oper} {rest : List Oper} {i : Nat} {Φs : List ((Nat → Value) → World → Prop)} {G : World → World → Prop} {T : Nat → World → World → Prop} {Pre : Nat → World → Prop} (Φ : (Nat → Value) → World → Prop) (h : ∀ u w, G w0 w → Pre i w → WaitedU Φs o.after.toList u w → LookedU P ops F (T i) i o Φ Q u w)
  (r : LexTU P ops F G w0 T Pre Q (o' :: rest) (i + 1) (Φs ++ [Φ])) : LexTU P ops F G w0 T Pre Q (o :: o' :: rest) i Φs := ⟨Φ, h, r⟩
theorem LexTU.one {o o' : Oper} {rest : List Oper} {i : Nat} {Φs : List ((Nat → Value) → World → Prop)} {G : World → World → Prop} {T : Nat → World → World → Prop} {Pre : Nat → World → Prop} (Φ : Value → World → Prop) (h : ∀ u w, G w0 w → Pre i w → WaitedU Φs o.after.toList u w → LookedT P ops F (T i) o Φ Q u w)
  (r : LexTU P ops F G w0 T Pre Q (o' :: rest) (i + 1) (Φs ++ [Own1 i Φ])) : LexTU P ops F G w0 T Pre Q (o :: o' :: rest) i Φs := by
 refine ⟨Own1 i Φ, fun u w hg hp hd => ?_, r⟩
 have := h u w hg hp hd
 unfold LookedT at this
 unfold LookedU
 split
 ·
  rename_i hw
  rw [if_pos hw] at this
  exact fun K hK => this K fun v w' ht hv => hK v w' ht (by unfold Own1; rw [upd_self]; exact hv)
 ·
  rename_i hw
  rw [if_neg hw] at this
  unfold Own1
  rw [upd_self]
  exact this
theorem LexTU.is {o o' : Oper} {rest : List Oper} {i : Nat} {Φs : List ((Nat → Value) → World → Prop)} {G : World → World → Prop} {T : Nat → World → World → Prop} {Pre : Nat → World → Prop} {c : Value} (h : ∀ u w, G w0 w → Pre i w → WaitedU Φs o.after.toList u w → LookedT P ops F (T i) o (Is c) Q u w)
  (r : LexTU P ops F G w0 T Pre Q (o' :: rest) (i + 1) (Φs ++ [Own1 i (Is c)])) : LexTU P ops F G w0 T Pre Q (o :: o' :: rest) i Φs := LexTU.one (Is c) h r
theorem LexTU.last {o : Oper} {i : Nat} {Φs : List ((Nat → Value) → World → Prop)} {G : World → World → Prop} {T : Nat → World → World → Prop} {Pre : Nat → World → Prop} (hst : ∀ i j (Φ : (Nat → Value) → World → Prop), i ≠ j → i < Φs.length → FreeOf ops i j → Φs[j]? = some Φ → ∀ u v w w', Φ u w → T i w w' → Φ (upd u i v) w')
  (h : ∀ u w, G w0 w → Pre i w → (∀ (j : Nat) (Φ : (Nat → Value) → World → Prop), Φs[j]? = some Φ → Φ u w) → Region.wanted o (yielded ops (F u).tmps) = true ∧ ∀ K : Act → World → Prop, (∀ a w', Q .normal a w' → K a w') → o.wp P (F u) w K Q) : LexTU P ops F G w0 T Pre Q [o] i Φs := ⟨hst, h⟩
theorem own1_keep {i j : Nat} {Φ : Value → World → Prop} {u : Nat → Value} {v : Value} {w w' : World} (hij : i ≠ j) (h : Own1 j Φ u w) (hk : ∀ x, Φ x w → Φ x w') : Own1 j Φ (upd u i v) w' := by
 unfold Own1
 rw [upd_other u v (fun e => hij e.symm)]
 exact hk _ h
def waitsB (ops : Array Oper) (i j : Nat) : Bool := match ops[j]? with
 | some o => o.after.any fun e => Region.binds .any e && e.on == i
 | none => false
theorem waitsB_spec {i j : Nat} (h : waitsB ops i j = true) : ¬ FreeOf ops i j := by
 intro hf
 unfold waitsB at h
 cases ho : ops[j]? with
 | none => rw [ho] at h; simp at h
 | some o =>
  rw [ho] at h
  simp only [Array.any_eq_true', Bool.and_eq_true, beq_iff_eq] at h
  obtain ⟨e, he, h1, h2⟩ := h
  exact hf o ho e he h1 h2
end
end Go.Proofs.YtkaggddmhjifjaaGreatDoor
