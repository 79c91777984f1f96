/- Texts in one: FormPlain TellsPlain DocPlan. -/
import Derived.Test.YtkaggddmhjifjaaGreatDoorK04
import Derived.Test.YtkaggddmhjifjaaGreatDoorK12
import Derived.Test.YtkaggddmhjifjaaGreatDoorK32
import Derived.Test.YtkaggddmhjifjaaGreatDoorK13
set_option linter.unusedSimpArgs false
set_option linter.unusedVariables false
namespace Go.Proofs.YtkaggddmhjifjaaGreatDoor
def inSp (s : Sp) (e x : Int) : Bool := decide (0 ≤ s.edge) && decide (0 ≤ s.lo) && decide (s.hi ≤ 1000000) && decide (s.edge = e) && decide (s.lo ≤ x) && decide (x < s.hi)
def hasT (l : List Sp) (e x : Int) : Bool := l.any fun s => inSp s e x
theorem hasT_iff (l : List Sp) (e x : Int) : hasT l e x = true ↔ hasSp (l.filter someT) e x := by
 unfold hasT hasSp
 rw [List.any_eq_true]
 constructor
 ·
  rintro ⟨s, hs, h⟩
  unfold inSp at h
  simp only [Bool.and_eq_true, decide_eq_true_eq] at h
  refine ⟨s, List.mem_filter.2 ⟨hs, ?_⟩, by omega, by omega, by omega⟩
  unfold someT
  simp only [Bool.and_eq_true, decide_eq_true_eq]
  omega
 ·
  rintro ⟨s, hs, h1, h2, h3⟩
  obtain ⟨hs, h⟩ := List.mem_filter.1 hs
  refine ⟨s, hs, ?_⟩
  unfold someT at h
  unfold inSp
  simp only [Bool.and_eq_true, decide_eq_true_eq] at h ⊢
  omega
def withT (n : Int) : List Int → List Int
 | [] => [n]
 | x :: l => if x = n then x :: l else if n < x then n :: x :: l else x :: withT n l
theorem withT_mem (n y : Int) : ∀ l, y ∈ withT n l ↔ y = n ∨ y ∈ l
 | [] => by simp [withT]
 | x :: l => by
  rw [withT]
  split
  ·
   rename_i h
   subst h
   simp only [List.mem_cons]
   constructor
   ·
    exact .inr
   ·
    rintro (h | h)
    ·
     exact .inl h
    ·
     exact h
  ·
   split
   ·
    simp only [List.mem_cons]
   ·
    simp only [List.mem_cons, withT_mem n y l]
    constructor
    ·
     rintro (h | h | h)
     ·
      exact .inr (.inl h)
     ·
      exact .inl h
     ·
      exact .inr (.inr h)
    ·
     rintro (h | h | h)
     ·
      exact .inr (.inl h)
     ·
      exact .inl h
     ·
      exact .inr (.inr h)
theorem withT_rising (n : Int) : ∀ l : List Int, l.Pairwise (· < ·) → (withT n l).Pairwise (· < ·)
 | [], _ => by simp [withT]
 | x :: l, h => by
  have h' := List.pairwise_cons.1 h
  rw [withT]
  split
  ·
   exact h
  ·
   rename_i h1
   split
   ·
    rename_i h2
    refine List.pairwise_cons.2 ⟨fun y hy => ?_, h⟩
    rcases List.mem_cons.1 hy with rfl | hy
    ·
     exact h2
    ·
     have := h'.1 y hy
     omega
   ·
    rename_i h2
    refine List.pairwise_cons.2 ⟨fun y hy => ?_, withT_rising n l h'.2⟩
    rcases (withT_mem n y l).1 hy with rfl | hy
    ·
     omega
    ·
     exact h'.1 y hy
def putS (e x y : Int) (open_ p : Bool) (out : List Sp) : List Sp := if p then (if open_ then (match out with
 | o :: r => ⟨o.edge, o.lo, y⟩ :: r
 | [] => [⟨e, x, y⟩]) else ⟨e, x, y⟩ :: out) else out
def stepsT (e : Int) (P : Int → Bool) : Bool → List Int → List Sp → List Sp
 | open_, x :: y :: l, out => stepsT e P (P x) (y :: l) (putS e x y open_ (P x) out)
 | _, _, out => out
def alikeT (P : Int → Bool) : List Int → Prop
 | x :: y :: l => (∀ z, x ≤ z → z < y → P z = P x) ∧ alikeT P (y :: l)
 | _ => True
def lastI (x : Int) : List Int → Int
 | [] => x
 | y :: l => lastI y l
theorem lastI_le : ∀ (l : List Int) (x : Int), (x :: l).Pairwise (· < ·) → x ≤ lastI x l
 | [], x, _ => by simp [lastI]
 | y :: l, x, h => by
  have h' := List.pairwise_cons.1 h
  have := lastI_le l y h'.2
  have := h'.1 y (by simp)
  rw [lastI]
  omega
theorem steps_normal (e : Int) (P : Int → Bool) : ∀ (l : List Int) (x : Int) (open_ : Bool) (out : List Sp), (x :: l).Pairwise (· < ·) → alikeT P (x :: l) →
  out.Pairwise (fun a b => ahead b a) → (∀ s ∈ out, s.lo < s.hi) → (∀ s ∈ out, s.edge < e ∨ s.edge = e ∧ s.hi ≤ x) → (open_ = true → ∃ o r, out = o :: r ∧ o.edge = e ∧ o.hi = x) → (open_ = false → ∀ s ∈ out, s.edge = e → s.hi < x) →
  (stepsT e P open_ (x :: l) out).Pairwise (fun a b => ahead b a) ∧ (∀ s ∈ stepsT e P open_ (x :: l) out, s.lo < s.hi) ∧ (∀ s ∈ stepsT e P open_ (x :: l) out, s.edge ≤ e) ∧ ∀ e' z, hasSp (stepsT e P open_ (x :: l) out) e' z ↔ hasSp out e' z ∨ (e' = e ∧ x ≤ z ∧ z < lastI x l ∧ P z = true)
 | [], x, open_, out, _, _, hp, hl, he, _, _ => by
  have : stepsT e P open_ [x] out = out := by simp [stepsT]
  rw [this]
  refine ⟨hp, hl, fun s hs => ?_, fun e' z => ?_⟩
  ·
   rcases he s hs with h | h <;> omega
  ·
   simp only [lastI]
   constructor
   ·
    exact .inl
   ·
    rintro (h | h)
    ·
     exact h
    ·
     omega
 | y :: l, x, open_, out, hr, ha, hp, hl, he, ho, hc => by
  have hr' := List.pairwise_cons.1 hr
  have hxy := hr'.1 y (by simp)
  obtain ⟨ha1, ha2⟩ := ha
  have hly := lastI_le l y hr'.2
  cases hP : P x with
  | false =>
   have e1 : stepsT e P open_ (x :: y :: l) out = stepsT e P false (y :: l) out := by rw [stepsT, hP]; rfl
   rw [e1]
   obtain ⟨r1, r2, r3, r4⟩ := steps_normal e P l y false out hr'.2 ha2 hp hl (fun s hs => (he s hs).imp id fun h => ⟨h.1, by omega⟩) (by simp) (fun _ s hs hse => by rcases he s hs with h | h <;> omega)
   refine ⟨r1, r2, r3, fun e' z => ?_⟩
   rw [r4, lastI]
   constructor
   ·
    rintro (h | ⟨h1, h2, h3, h4⟩)
    ·
     exact .inl h
    ·
     exact .inr ⟨h1, by omega, h3, h4⟩
   ·
    rintro (h | ⟨h1, h2, h3, h4⟩)
    ·
     exact .inl h
    ·
     by_cases hz : z < y
     ·
      rw [ha1 z h2 hz, hP] at h4
      cases h4
     ·
      exact .inr ⟨h1, by omega, h3, h4⟩
  | true =>
   cases open_ with
   | true =>
    obtain ⟨o, r, rfl, oe, oh⟩ := ho rfl
    have e1 : stepsT e P true (x :: y :: l) (o :: r) = stepsT e P true (y :: l) (⟨o.edge, o.lo, y⟩ :: r) := by rw [stepsT, hP]; rfl
    rw [e1]
    have hp' := List.pairwise_cons.1 hp
    have hol := hl o (by simp)
    obtain ⟨r1, r2, r3, r4⟩ := steps_normal e P l y true (⟨o.edge, o.lo, y⟩ :: r) hr'.2 ha2 (List.pairwise_cons.2 ⟨hp'.1, hp'.2⟩) (fun s hs => by
      rcases List.mem_cons.1 hs with rfl | hs
      ·
       show o.lo < y
       omega
      ·
       exact hl s (by simp [hs])) (fun s hs => by
      rcases List.mem_cons.1 hs with rfl | hs
      ·
       exact .inr ⟨oe, Int.le_refl _⟩
      ·
       exact (he s (by simp [hs])).imp id fun h => ⟨h.1, by omega⟩) (fun _ => ⟨_, _, rfl, oe, rfl⟩) (by simp)
    refine ⟨r1, r2, r3, fun e' z => ?_⟩
    rw [r4, lastI, hasSp_cons, hasSp_cons]
    simp only
    constructor
    ·
     rintro ((h | h) | ⟨h1, h2, h3, h4⟩)
     ·
      by_cases hz : z < o.hi
      ·
       exact .inl (.inl ⟨h.1, h.2.1, hz⟩)
      ·
       exact .inr ⟨by omega, by omega, by omega, by rw [ha1 z (by omega) h.2.2, hP]⟩
     ·
      exact .inl (.inr h)
     ·
      exact .inr ⟨h1, by omega, h3, h4⟩
    ·
     rintro ((h | h) | ⟨h1, h2, h3, h4⟩)
     ·
      exact .inl (.inl ⟨h.1, h.2.1, by omega⟩)
     ·
      exact .inl (.inr h)
     ·
      by_cases hz : z < y
      ·
       exact .inl (.inl ⟨by omega, by omega, hz⟩)
      ·
       exact .inr ⟨h1, by omega, h3, h4⟩
   | false =>
    have e1 : stepsT e P false (x :: y :: l) out = stepsT e P true (y :: l) (⟨e, x, y⟩ :: out) := by rw [stepsT, hP]; rfl
    rw [e1]
    obtain ⟨r1, r2, r3, r4⟩ := steps_normal e P l y true (⟨e, x, y⟩ :: out) hr'.2 ha2 (List.pairwise_cons.2 ⟨fun s hs => by
      rcases he s hs with h | h
      ·
       exact .inl h
      ·
       exact .inr ⟨h.1, hc rfl s hs h.1⟩, hp⟩) (fun s hs => by
      rcases List.mem_cons.1 hs with rfl | hs
      ·
       exact hxy
      ·
       exact hl s hs) (fun s hs => by
      rcases List.mem_cons.1 hs with rfl | hs
      ·
       exact .inr ⟨rfl, Int.le_refl _⟩
      ·
       exact (he s hs).imp id fun h => ⟨h.1, by omega⟩) (fun _ => ⟨_, _, rfl, rfl, rfl⟩) (by simp)
    refine ⟨r1, r2, r3, fun e' z => ?_⟩
    rw [r4, lastI, hasSp_cons]
    simp only
    constructor
    ·
     rintro ((h | h) | ⟨h1, h2, h3, h4⟩)
     ·
      exact .inr ⟨by omega, h.2.1, by omega, by rw [ha1 z h.2.1 h.2.2, hP]⟩
     ·
      exact .inl h
     ·
      exact .inr ⟨h1, by omega, h3, h4⟩
    ·
     rintro (h | ⟨h1, h2, h3, h4⟩)
     ·
      exact .inl (.inr h)
     ·
      by_cases hz : z < y
      ·
       exact .inl (.inl ⟨by omega, h2, hz⟩)
      ·
       exact .inr ⟨h1, by omega, h3, h4⟩
structure Keep where
 one : Bool
 other : Bool
 common : Bool
def wantT (k : Keep) (a b : Bool) : Bool := k.one && a && !b || k.other && b && !a || k.common && a && b
def edgesT (l : List Sp) : List Int := l.foldl (fun r s => withT s.edge r) []
def endsT (l : List Sp) : List Int := l.foldl (fun r s => withT s.hi (withT s.lo r)) []
def wantedT (a b : List Sp) (k : Keep) (e x : Int) : Bool := wantT k (hasT a e x) (hasT b e x)
def formT (a b : List Sp) (k : Keep) : List Sp := ((edgesT (a ++ b)).foldl (fun out e => stepsT e (wantedT a b k e) false (endsT (a ++ b)) out) []).reverse
theorem edges_is (l : List Sp) : (edgesT l).Pairwise (· < ·) ∧ ∀ e, e ∈ edgesT l ↔ ∃ s ∈ l, s.edge = e := by
 have gen : ∀ (l : List Sp) (r : List Int), r.Pairwise (· < ·) → (l.foldl (fun r s => withT s.edge r) r).Pairwise (· < ·) ∧ ∀ e, e ∈ l.foldl (fun r s => withT s.edge r) r ↔ e ∈ r ∨ ∃ s ∈ l, s.edge = e := by
  intro l
  induction l with
  | nil => intro r hr; exact ⟨hr, fun e => by simp⟩
  | cons s l ih =>
   intro r hr
   rw [List.foldl_cons]
   obtain ⟨h1, h2⟩ := ih _ (withT_rising s.edge r hr)
   refine ⟨h1, fun e => ?_⟩
   rw [h2, withT_mem]
   simp only [List.mem_cons, exists_eq_or_imp]
   constructor
   ·
    rintro ((h | h) | h)
    ·
     exact .inr (.inl h.symm)
    ·
     exact .inl h
    ·
     exact .inr (.inr h)
   ·
    rintro (h | h | h)
    ·
     exact .inl (.inr h)
    ·
     exact .inl (.inl h.symm)
    ·
     exact .inr h
 obtain ⟨h1, h2⟩ := gen l [] .nil
 exact ⟨h1, fun e => by unfold edgesT; rw [h2]; simp⟩
theorem ends_is (l : List Sp) : (endsT l).Pairwise (· < ·) ∧ ∀ s ∈ l, s.lo ∈ endsT l ∧ s.hi ∈ endsT l := by
 have gen : ∀ (l : List Sp) (r : List Int), r.Pairwise (· < ·) → (l.foldl (fun r s => withT s.hi (withT s.lo r)) r).Pairwise (· < ·) ∧ (∀ e ∈ r, e ∈ l.foldl (fun r s => withT s.hi (withT s.lo r)) r) ∧ ∀ s ∈ l, s.lo ∈ l.foldl (fun r s => withT s.hi (withT s.lo r)) r ∧ s.hi ∈ l.foldl (fun r s => withT s.hi (withT s.lo r)) r := by
  intro l
  induction l with
  | nil => intro r hr; exact ⟨hr, fun e he => he, by simp⟩
  | cons s l ih =>
   intro r hr
   rw [List.foldl_cons]
   obtain ⟨h1, h2, h3⟩ := ih _ (withT_rising s.hi _ (withT_rising s.lo r hr))
   refine ⟨h1, fun e he => h2 e ((withT_mem _ _ _).2 (.inr ((withT_mem _ _ _).2 (.inr he)))), fun x hx => ?_⟩
   rcases List.mem_cons.1 hx with rfl | hx
   ·
    exact ⟨h2 _ ((withT_mem _ _ _).2 (.inr ((withT_mem _ _ _).2 (.inl rfl)))), h2 _ ((withT_mem _ _ _).2 (.inl rfl))⟩
   ·
    exact h3 x hx
 obtain ⟨h1, _, h3⟩ := gen l [] .nil
 exact ⟨h1, h3⟩
theorem alike_of (P : Int → Bool) (L0 : List Int) (H : ∀ x z, x ≤ z → (∀ c ∈ L0, ¬ (x < c ∧ c ≤ z)) → P z = P x) : ∀ (L : List Int), L.Pairwise (· < ·) → (∀ c ∈ L0, c ∈ L ∨ ∀ y ∈ L, c < y) → alikeT P L
 | [], _, _ => trivial
 | [_], _, _ => trivial
 | x :: y :: l, h, hs => by
  have h' := List.pairwise_cons.1 h
  have h2 := List.pairwise_cons.1 h'.2
  refine ⟨fun z h1 h3 => H x z h1 fun c hc => ?_, alike_of P L0 H (y :: l) h'.2 fun c hc => ?_⟩
  ·
   rcases hs c hc with hc | hc
   ·
    rcases List.mem_cons.1 hc with rfl | hc
    ·
     omega
    ·
     rcases List.mem_cons.1 hc with rfl | hc
     ·
      omega
     ·
      have := h2.1 c hc
      omega
   ·
    have := hc x (by simp)
    omega
  ·
   rcases hs c hc with hc | hc
   ·
    rcases List.mem_cons.1 hc with rfl | hc
    ·
     exact .inr fun z hz => h'.1 z hz
    ·
     exact .inl hc
   ·
    exact .inr fun z hz => hc z (List.mem_cons_of_mem _ hz)
theorem inSp_alike {s : Sp} {e x z : Int} (h : x ≤ z) (h1 : ¬ (x < s.lo ∧ s.lo ≤ z)) (h2 : ¬ (x < s.hi ∧ s.hi ≤ z)) : inSp s e z = inSp s e x := by
 unfold inSp
 rw [Bool.eq_iff_iff]
 simp only [Bool.and_eq_true, decide_eq_true_eq]
 omega
theorem hasT_alike {l : List Sp} {e x z : Int} (h : x ≤ z) (hc : ∀ s ∈ l, ¬ (x < s.lo ∧ s.lo ≤ z) ∧ ¬ (x < s.hi ∧ s.hi ≤ z)) : hasT l e z = hasT l e x := by
 induction l with
 | nil => rfl
 | cons s l ih =>
  unfold hasT at ih ⊢
  rw [List.any_cons, List.any_cons, ih fun s hs => hc s (List.mem_cons_of_mem _ hs), inSp_alike h (hc s (by simp)).1 (hc s (by simp)).2]
theorem wanted_alike (a b : List Sp) (k : Keep) (e : Int) : alikeT (wantedT a b k e) (endsT (a ++ b)) := by
 obtain ⟨h1, h2⟩ := ends_is (a ++ b)
 refine alike_of _ _ (fun x z hz hc => ?_) _ h1 fun c hc => .inl hc
 unfold wantedT
 rw [hasT_alike hz (fun s hs => ⟨hc _ (h2 s (List.mem_append_left _ hs)).1, hc _ (h2 s (List.mem_append_left _ hs)).2⟩), hasT_alike hz (fun s hs => ⟨hc _ (h2 s (List.mem_append_right _ hs)).1, hc _ (h2 s (List.mem_append_right _ hs)).2⟩)]
theorem mem_range {c : Int} : ∀ {l : List Int} {x : Int}, (x :: l).Pairwise (· < ·) → c ∈ x :: l → x ≤ c ∧ c ≤ lastI x l
 | [], x, _, h => by
  simp at h
  subst h
  exact ⟨Int.le_refl _, Int.le_refl _⟩
 | y :: l, x, h, hc => by
  have h' := List.pairwise_cons.1 h
  rcases List.mem_cons.1 hc with rfl | hc
  ·
   exact ⟨Int.le_refl _, lastI_le _ _ h⟩
  ·
   have := mem_range h'.2 hc
   have := h'.1 y (by simp)
   exact ⟨by omega, by rw [lastI]; omega⟩
theorem hasT_in {l : List Sp} {e z : Int} (h : hasT l e z = true) : ∃ s ∈ l, s.edge = e ∧ s.lo ≤ z ∧ z < s.hi := by
 unfold hasT at h
 obtain ⟨s, hs, h⟩ := List.any_eq_true.1 h
 unfold inSp at h
 simp only [Bool.and_eq_true, decide_eq_true_eq] at h
 exact ⟨s, hs, by omega, by omega, by omega⟩
theorem wanted_in {a b : List Sp} {k : Keep} {e z : Int} (h : wantedT a b k e z = true) : ∃ s ∈ a ++ b, s.edge = e ∧ s.lo ≤ z ∧ z < s.hi := by
 unfold wantedT wantT at h
 cases ha : hasT a e z with
 | true =>
  obtain ⟨s, hs, hh⟩ := hasT_in ha
  exact ⟨s, List.mem_append_left _ hs, hh⟩
 | false =>
  cases hb : hasT b e z with
  | true =>
   obtain ⟨s, hs, hh⟩ := hasT_in hb
   exact ⟨s, List.mem_append_right _ hs, hh⟩
  | false =>
   rw [ha, hb] at h
   simp at h
theorem fold_normal (a b : List Sp) (k : Keep) (x : Int) (l : List Int) (hl : endsT (a ++ b) = x :: l) : ∀ (es : List Int) (out : List Sp), es.Pairwise (· < ·) → (∀ s ∈ out, ∀ e ∈ es, s.edge < e) →
  out.Pairwise (fun a b => ahead b a) → (∀ s ∈ out, s.lo < s.hi) →
  (es.foldl (fun out e => stepsT e (wantedT a b k e) false (x :: l) out) out).Pairwise (fun a b => ahead b a) ∧ (∀ s ∈ es.foldl (fun out e => stepsT e (wantedT a b k e) false (x :: l) out) out, s.lo < s.hi) ∧
  ∀ e z, hasSp (es.foldl (fun out e => stepsT e (wantedT a b k e) false (x :: l) out) out) e z ↔ hasSp out e z ∨ (e ∈ es ∧ x ≤ z ∧ z < lastI x l ∧ wantedT a b k e z = true)
 | [], out, _, _, hp, ho => ⟨hp, ho, fun e z => by simp⟩
 | e :: es, out, hr, he, hp, ho => by
  have hr' := List.pairwise_cons.1 hr
  have hri := (ends_is (a ++ b)).1
  have hal := wanted_alike a b k e
  rw [hl] at hri hal
  obtain ⟨r1, r2, r3, r4⟩ := steps_normal e (wantedT a b k e) l x false out hri hal hp ho (fun s hs => .inl (he s hs e (by simp))) (by simp) (fun _ s hs hse => by have := he s hs e (by simp); omega)
  obtain ⟨q1, q2, q3⟩ := fold_normal a b k x l hl es (stepsT e (wantedT a b k e) false (x :: l) out) hr'.2 (fun s hs e' he' => by have := r3 s hs; have := hr'.1 e' he'; omega) r1 r2
  rw [List.foldl_cons]
  refine ⟨q1, q2, fun e' z => ?_⟩
  rw [q3, r4]
  simp only [List.mem_cons]
  constructor
  ·
   rintro ((h | ⟨rfl, h⟩) | ⟨h, h2⟩)
   ·
    exact .inl h
   ·
    exact .inr ⟨.inl rfl, h⟩
   ·
    exact .inr ⟨.inr h, h2⟩
  ·
   rintro (h | ⟨rfl | h, h2⟩)
   ·
    exact .inl (.inl h)
   ·
    exact .inl (.inr ⟨rfl, h2⟩)
   ·
    exact .inr ⟨h, h2⟩
theorem form_normal (a b : List Sp) (k : Keep) : (formT a b k).Pairwise ahead ∧ (∀ s ∈ formT a b k, s.lo < s.hi) ∧ ∀ e z, hasSp (formT a b k) e z ↔ wantedT a b k e z = true := by
 unfold formT
 obtain ⟨e1, e2⟩ := edges_is (a ++ b)
 obtain ⟨d1, d2⟩ := ends_is (a ++ b)
 cases hl : endsT (a ++ b) with
 | nil =>
  have h0 : a ++ b = [] := by
   cases hab : a ++ b with
   | nil => rfl
   | cons s r =>
    have := (d2 s (by rw [hab]; simp)).1
    rw [hl] at this
    cases this
  have h1 : edgesT (a ++ b) = [] := by rw [h0]; rfl
  rw [h1]
  refine ⟨.nil, by simp, fun e z => ⟨fun h => absurd h (by simp [hasSp]), fun h => ?_⟩⟩
  obtain ⟨s, hs, _⟩ := wanted_in h
  rw [h0] at hs
  cases hs
 | cons x l =>
  obtain ⟨q1, q2, q3⟩ := fold_normal a b k x l hl (edgesT (a ++ b)) [] e1 (by simp) .nil (by simp)
  refine ⟨List.pairwise_reverse.2 q1, fun s hs => q2 s (List.mem_reverse.1 hs), fun e z => ?_⟩
  rw [hasSp_perm (List.reverse_perm _), q3]
  constructor
  ·
   rintro (h | ⟨_, _, _, h⟩)
   ·
    exact absurd h (hasSp_nil _ _)
   ·
    exact h
  ·
   intro h
   obtain ⟨s, hs, h1, h2, h3⟩ := wanted_in h
   obtain ⟨h4, h5⟩ := d2 s hs
   rw [hl] at h4 h5 d1
   have h6 := mem_range d1 h4
   have h7 := mem_range d1 h5
   exact .inr ⟨(e2 e).2 ⟨s, hs, h1⟩, by omega, by omega, h⟩
theorem norm_normal (l : List Sp) : (normT l).Pairwise ahead ∧ (∀ s ∈ normT l, s.lo < s.hi) ∧ ∀ e x, hasSp (normT l) e x ↔ hasT l e x = true := by
 unfold normT
 have h0 : ∀ s ∈ l.filter someT, s.lo < s.hi := fun s h => some_lt (List.mem_filter.1 h).2
 have hq := foldSp_perm (l.filter someT)
 have hf : ∀ s ∈ (l.filter someT).foldr putSp [], s.lo < s.hi := fun s h => h0 s (hq.mem_iff.1 h)
 have b := join_normal ((l.filter someT).foldr putSp []) [] .nil (by simp) hf (foldSp_sorted _) (by simp)
 refine ⟨List.pairwise_reverse.2 b.1, fun s h => b.2.1 s (List.mem_reverse.1 h), fun e x => ?_⟩
 rw [hasSp_perm (List.reverse_perm _), b.2.2, hasT_iff, hasSp_perm hq]
 constructor
 ·
  rintro (h | h)
  ·
   exact absurd h (hasSp_nil _ _)
  ·
   exact h
 ·
  exact .inr
theorem form_norm (l : List Sp) : formT l [] ⟨true, false, false⟩ = normT l := by
 obtain ⟨a1, a2, a3⟩ := form_normal l [] ⟨true, false, false⟩
 obtain ⟨b1, b2, b3⟩ := norm_normal l
 refine normal_one _ _ a1 b1 a2 b2 fun e x => ?_
 rw [a3, b3]
 unfold wantedT wantT
 simp [hasT]
theorem norm_filter (l : List Sp) (q : Sp → Bool) (h : ∀ s, someT s = true → q s = true) : normT (l.filter q) = normT l := by
 unfold normT
 rw [List.filter_filter]
 have : (l.filter fun a => someT a && q a) = l.filter someT := by
  congr 1
  funext s
  cases hs : someT s with
  | false => rfl
  | true => simp [h s hs]
 rw [this]
def sectsD : Int → List Sc → Bool
 | _, [] => true
 | last, s :: l => decide (last < s.to_) && decide (s.to_ ≤ 100000000) && decide (1 ≤ s.timer) && decide (s.timer ≤ 1000) && sectsD s.to_ l
theorem sectsD_of : ∀ (l : List Sc) (last : Int), sectsP last l = true → (∀ s ∈ l, s.to_ ≤ 100000000) → sectsD last l = true
 | [], _, _, _ => rfl
 | s :: l, last, h, hs => by
  unfold sectsP at h
  unfold sectsD
  simp only [Bool.and_eq_true, decide_eq_true_eq] at h ⊢
  exact ⟨⟨⟨⟨h.1.1.1.1, hs s (by simp)⟩, h.1.1.2⟩, h.1.2⟩, sectsD_of l _ h.2 fun x hx => hs x (by simp [hx])⟩
theorem sectsP_of : ∀ (l : List Sc) (last : Int), sectsD last l = true → sectsP last l = true
 | [], _, _ => rfl
 | s :: l, last, h => by
  unfold sectsD at h
  unfold sectsP
  simp only [Bool.and_eq_true, decide_eq_true_eq] at h ⊢
  exact ⟨⟨⟨⟨h.1.1.1.1, by omega⟩, h.1.1.2⟩, h.1.2⟩, sectsP_of l _ h.2⟩
theorem sectsD_drop {l : List Sc} {k : Nat} {s : Sc} {x : Int} (h : l[k]? = some s) : sectsD x (l.drop k) = (decide (x < s.to_) && decide (s.to_ ≤ 100000000) && decide (1 ≤ s.timer) && decide (s.timer ≤ 1000) && sectsD s.to_ (l.drop (k + 1))) := by
 rw [drop_cons h, sectsD]
def behindD (t : Tp) (m : Ma) : Int := (onT t m.path (placeB ((balT t m.ref).getD ⟨0, 0, 0⟩) m.rev)).1
theorem on_group {t : Tp} {m : Ma} {b : Bl} (hc : checkT t = 0) (hb : balT t m.ref = some b) (hh : m.path.head? = some ⟨b.edge, m.rev⟩) (hl : lenE t m.path = 0) : onT t m.path (placeB b m.rev) = (alongT t (placeB b m.rev), 0) := by
 obtain ⟨h1, h2, h3⟩ := check_bal hc hb
 have hr : rightT t (placeB b m.rev) = true := by
  unfold rightT placeB
  simp [hc, h1, h2, h3]
 unfold onT
 rw [hr, hl]
 cases hp : m.path with
 | nil => rw [hp] at hh; cases hh
 | cons s l =>
  rw [hp] at hh
  simp only [List.head?_cons, Option.some.injEq] at hh
  subst hh
  simp [aheadT, placeB]
theorem mayP_doc (t : Tp) (m : Ma) : mayP t m = true ↔ checkT t = 0 ∧ (∃ b, balT t m.ref = some b ∧ m.path.head? = some ⟨b.edge, m.rev⟩) ∧ m.path.length ≤ 24 ∧ 1 ≤ m.sects.length ∧ m.sects.length ≤ 8 ∧ 0 ≤ m.gap ∧ m.gap ≤ 100000000 ∧ twiceP [] m.path = false ∧ lenE t m.path = 0 ∧ sectsD 0 m.sects = true ∧ lastP m + m.gap ≤ lenT t m.path - behindD t m := by
 constructor
 ·
  intro h
  obtain ⟨h1, h2, h3, h4, h5, h6, h7, h8, x, hx, h9⟩ := may_parts h
  unfold leftP at hx
  cases hb : balT t m.ref with
  | none => rw [hb] at hx; cases hx
  | some b =>
   rw [hb] at hx
   simp only at hx
   split at hx
   ·
    cases hx
   ·
    rename_i hn
    have hhd : m.path.head? = some ⟨b.edge, m.rev⟩ := Decidable.byContradiction fun c => hn (.inl c)
    have hle : lenE t m.path = 0 := Decidable.byContradiction fun c => hn (.inr c)
    cases hx
    have hbe : behindD t m = alongT t (placeB b m.rev) := by
     unfold behindD
     rw [hb]
     simp only [Option.getD_some]
     rw [on_group h1 hb hhd hle]
    have hal : alongT t (placeB b m.rev) = if m.rev then edgeT t b.edge - b.at_ else b.at_ := rfl
    obtain ⟨b1, b2, b3⟩ := check_bal h1 hb
    have h0 : 0 ≤ alongT t (placeB b m.rev) := by rw [hal]; split <;> omega
    obtain ⟨k1, k2, k3, k4⟩ := len_ok hle
    have hlen := lens_nonneg (check_edges h1) m.path k3
    rw [← len_is (check_edges h1) hle] at hlen
    have hlast : ∀ s ∈ m.sects, 0 < s.to_ ∧ s.to_ ≤ lastP m := fun s hs => by
     have := sects_rise m.sects 0 h8 s hs
     exact this
    have hne : m.sects ≠ [] := by intro e; rw [e] at h4; simp at h4
    obtain ⟨s0, hs0⟩ := List.exists_mem_of_ne_nil _ hne
    have hp0 := hlast s0 hs0
    rw [← hal] at h9
    simp only at h9
    refine ⟨h1, ⟨b, rfl, hhd⟩, h2, h4, h5, h6, by omega, h3, hle, sectsD_of _ _ h8 fun s hs => by have := hlast s hs; omega, by rw [hbe]; exact h9⟩
 ·
  rintro ⟨h1, ⟨b, hb, hhd⟩, h2, h4, h5, h6, h7, h3, hle, h8, h9⟩
  have hbe : behindD t m = alongT t (placeB b m.rev) := by
   unfold behindD
   rw [hb]
   simp only [Option.getD_some]
   rw [on_group h1 hb hhd hle]
  have hal : alongT t (placeB b m.rev) = if m.rev then edgeT t b.edge - b.at_ else b.at_ := rfl
  refine may_of (x := (lenT t m.path - (if m.rev then edgeT t b.edge - b.at_ else b.at_), if m.rev then edgeT t b.edge - b.at_ else b.at_)) h1 h2 h3 h4 h5 h6 (by omega) (sectsP_of _ _ h8) ?_ ?_
  ·
   unfold leftP
   rw [hb]
   simp only
   rw [if_neg (by rintro (c | c); exact c hhd; exact c hle)]
  ·
   rw [hbe, hal] at h9
   exact h9
theorem behind_ok {t : Tp} {m : Ma} (h : mayP t m = true) : backX t m = some (behindD t m) := by
 obtain ⟨h1, ⟨b, hb, hhd⟩, _, _, _, _, _, _, hle, _⟩ := (mayP_doc t m).1 h
 unfold backX behindD
 rw [hb]
 simp only [Option.getD_some]
 rw [on_group h1 hb hhd hle]
 simp
theorem front_doc {t : Tp} {m : Ma} (h : mayP t m = true) (p : Ps) : frontM t m p = if (onT t m.path p).2 = 0 ∧ 0 ≤ (onT t m.path p).1 - behindD t m then some ((onT t m.path p).1 - behindD t m) else none := by
 unfold frontM
 rw [behind_ok h]
 simp only
 by_cases h1 : (onT t m.path p).2 = 0
 ·
  by_cases h2 : behindD t m ≤ (onT t m.path p).1
  ·
   rw [if_pos ⟨h1, h2⟩, if_pos ⟨h1, by omega⟩]
  ·
   rw [if_neg (by omega), if_neg (by omega)]
 ·
  rw [if_neg (fun c => h1 c.1), if_neg (fun c => h1 c.1)]
def timeE (last now : Int) : Int := if clockP now = false then 1 else if now * 8 + 7 ≤ last then 3 else 0
def timeN (last now : Int) : Int := if timeE last now = 0 then max (now * 8) (last + 1) else 0
open Go.RowKit Go.Shelf
set_option maxRecDepth 8000 in
set_option maxHeartbeats 4000000 in
theorem rplace_m {w : World} {t : Tp} {m : TpM} (h : TpIs w t m) (ma : Ma) (v : MaM) : Calls Tryz.prog 112 #[.agg m.cells, .agg (maC ma v)] w fun e w' => e = .returned (.tuple #[psV (placeB ((balT t ma.ref).getD ⟨0, 0, 0⟩) ma.rev), .bool (balT t ma.ref).isSome]) ∧ Below w.heap.size w w' := by
 have hO : Own w _ [_, _, _] := Own.start3 w 27 42 38 m.cells (maC ma v) #[.int .i64 0, .int .i64 0, .bool false]
 have hcl := hO.b0.cell
 have hcx := hO.b1.cell
 have hba := fun W (hW : Below w.heap.size w W) => rbal_m (h.below hW) ma.ref
 generalize (balT t ma.ref).isSome = ib at *
 generalize (balT t ma.ref).getD ⟨0, 0, 0⟩ = y at *
 obtain ⟨y1, y2, y3⟩ := y
 unfold placeB
 unfold maC at *
 unfold TpM.cells at *
 simp only [blV] at hba
 go_enter Tryz.func112, Tryz.ntmps112
 go_wp2_with (first
  |(go_at_call 61; (with_reducible refine (hba _ hO.below).mono ?_); rintro e w1 ⟨rfl, hb1⟩; replace hO := Own.new3 (hO.grow hb1) 93 #[.int .i64 y1, .int .i64 y2, .int .i64 y3]; have hcl1 := hO.b0.cell; have hcx1 := hO.b1.cell; have hcb1 := hO.b3.cell)
  |((with_reducible refine own_row2 (#[.int .i64 y2, .int .i64 y3, .bool ma.rev]) hO rfl _ _ rfl rfl rfl (by kernel_rfl) rfl ?_ ?_); (· first | rfl | (simp [Value.oneCell']; done)); intro wR hOR hszR hkR; replace hO := hOR; clear hOR)
  )
 exact bodyPost_ret (results_ct1 Tryz.results112 _ _ _ _ _ _ rfl rfl hO.b2 Tryz.underlying38 rfl (by kernel_rfl)) rfl ⟨rfl, hO.below⟩
set_option maxRecDepth 8000 in
set_option maxHeartbeats 4000000 in
theorem rbehind_m {w : World} {t : Tp} {m : TpM} (h : TpIs w t m) (ma : Ma) (v : MaM) (hm : MaIs w ma v) : Calls Tryz.prog 65 #[.agg m.cells, .agg (maC ma v)] w fun e w' => e = .returned (.int .i64 (behindD t ma)) ∧ Below w.heap.size w w' := by
 have hO : Own w _ [_, _] := Own.start2 w 27 42 m.cells (maC ma v)
 have hcl := hO.b0.cell
 have hcx := hO.b1.cell
 have hpl := fun W (hW : Below w.heap.size w W) => rplace_m (h.below hW) ma v
 have hon := fun W (hW : Below w.heap.size w W) => ron_m (h.below hW) v.A1 v.n1 v.c1 ma.path (placeB ((balT t ma.ref).getD ⟨0, 0, 0⟩) ma.rev) (hm.path.below hW) hm.e1 hm.l1
 have hbe : behindD t ma = (onT t ma.path (placeB ((balT t ma.ref).getD ⟨0, 0, 0⟩) ma.rev)).1 := rfl
 rw [hbe]
 clear hbe
 generalize onT t ma.path (placeB ((balT t ma.ref).getD ⟨0, 0, 0⟩) ma.rev) = r at *
 generalize placeB ((balT t ma.ref).getD ⟨0, 0, 0⟩) ma.rev = p at *
 generalize (balT t ma.ref).isSome = ib at *
 obtain ⟨pe, pa, pr⟩ := p
 unfold maC at *
 unfold TpM.cells at *
 simp only [psV] at hpl hon
 go_enter Tryz.func65, Tryz.ntmps65
 go_wp2_with (first
  |(go_at_call 112; (with_reducible refine (hpl _ hO.below).mono ?_); rintro e w1 ⟨rfl, hb1⟩; replace hO := Own.new2 (hO.grow hb1) 38 #[.int .i64 pe, .int .i64 pa, .bool pr]; have hcl1 := hO.b0.cell; have hcx1 := hO.b1.cell; have hcb1 := hO.b2.cell)
  |(go_at_call 64; (with_reducible refine (hon _ hO.below).mono ?_); rintro e w2 ⟨rfl, hb2⟩; replace hO := hO.grow hb2))
 go_ret
 exact ⟨rfl, hO.below⟩
set_option maxRecDepth 8000 in
set_option maxHeartbeats 4000000 in
theorem ralong_m {w : World} {t : Tp} {m : TpM} (h : TpIs w t m) (ma : Ma) (v : MaM) (hm : MaIs w ma v) (hmay : mayP t ma = true) (p : Ps) : Calls Tryz.prog 24 #[.agg m.cells, .agg (maC ma v), psV p] w fun e w' => e = .returned (frontV (frontM t ma p)) ∧ Below w.heap.size w w' := by
 have hO : Own w _ [_, _, _] := Own.start3 w 27 42 38 m.cells (maC ma v) #[.int .i64 p.edge, .int .i64 p.at_, .bool p.rev]
 have hcl := hO.b0.cell
 have hcx := hO.b1.cell
 have hcp := hO.b2.cell
 have hon := fun W (hW : Below w.heap.size w W) => ron_m (h.below hW) v.A1 v.n1 v.c1 ma.path p (hm.path.below hW) hm.e1 hm.l1
 have hbe := fun W (hW : Below w.heap.size w W) => rbehind_m (h.below hW) ma v (hm.below hW)
 have hfr := front_doc hmay p
 have hb1 := on_bound t ma.path p
 have hb2 : 0 ≤ behindD t ma ∧ behindD t ma ≤ 100000000 := on_bound _ _ _
 rw [hfr]
 clear hfr
 generalize behindD t ma = bd at *
 generalize hr : onT t ma.path p = r at *
 obtain ⟨rn, re⟩ := r
 simp only at hb1 ⊢
 obtain ⟨pe, pa, pr⟩ := p
 simp only at hcp hO
 unfold maC at *
 unfold TpM.cells at *
 simp only [psV] at hon
 by_cases h1 : re = 0
 ·
  subst h1
  have hw : wrap64 (rn - bd) = rn - bd := by simp only [wrap64]; omega
  by_cases h2 : 0 ≤ rn - bd
  ·
   rw [if_pos ⟨rfl, h2⟩]
   have f2 : decide (rn - bd < 0) = false := by simp; omega
   unfold frontV
   go_enter Tryz.func24, Tryz.ntmps24
   go_wp2_with (first
    |(go_at_call 64; (with_reducible refine (hon _ hO.below).mono ?_); rintro e w1 ⟨rfl, hb1⟩; replace hO := hO.grow hb1; have hcl1 := hO.b0.cell; have hcx1 := hO.b1.cell)
    |(go_at_call 65; (with_reducible refine (hbe _ hO.below).mono ?_); rintro e w2 ⟨rfl, hb2⟩; replace hO := hO.grow hb2))
   go_ret2
   exact ⟨rfl, hO.below⟩
  ·
   rw [if_neg (fun c => h2 c.2)]
   have f2 : decide (rn - bd < 0) = true := by simp; omega
   unfold frontV
   go_enter Tryz.func24, Tryz.ntmps24
   go_wp2_with (first
    |(go_at_call 64; (with_reducible refine (hon _ hO.below).mono ?_); rintro e w1 ⟨rfl, hb1⟩; replace hO := hO.grow hb1; have hcl1 := hO.b0.cell; have hcx1 := hO.b1.cell)
    |(go_at_call 65; (with_reducible refine (hbe _ hO.below).mono ?_); rintro e w2 ⟨rfl, hb2⟩; replace hO := hO.grow hb2))
   go_ret2
   exact ⟨rfl, hO.below⟩
 ·
  rw [if_neg (fun c => h1 c.1)]
  have f1 : (re != 0) = true := by simpa using h1
  unfold frontV
  go_enter Tryz.func24, Tryz.ntmps24
  go_wp2_with (first
   |(go_at_call 64; (with_reducible refine (hon _ hO.below).mono ?_); rintro e w1 ⟨rfl, hb1⟩; replace hO := hO.grow hb1; have hcl1 := hO.b0.cell; have hcx1 := hO.b1.cell)
   |(go_at_call 65; (with_reducible refine (hbe _ hO.below).mono ?_); rintro e w2 ⟨rfl, hb2⟩; replace hO := hO.grow hb2))
  go_ret2
  exact ⟨rfl, hO.below⟩
end Go.Proofs.YtkaggddmhjifjaaGreatDoor
