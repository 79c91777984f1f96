/- Texts in one: Total NormPlain. -/
import Derived.Test.YtpjdcpicfkdioaaGreatDoorK03
/- Plain: what a way goes over, from one place on it to another, has just so many decimetres as lie between. -/
set_option linter.unusedSimpArgs false
set_option linter.unusedVariables false
namespace Go.Proofs.YtpjdcpicfkdioaaGreatDoor
open Go.RowKit

theorem putSp_perm (s : Sp) : ∀ l, (putSp s l).Perm (s :: l)
  | [] => .refl _
  | x :: l => by
    rw [putSp]
    split
    · exact .refl _
    · exact ((putSp_perm s l).cons x).trans (.swap s x l)
theorem foldSp_perm : ∀ l : List Sp, (l.foldr putSp []).Perm l
  | [] => .refl _
  | s :: l => by
    rw [List.foldr_cons]
    exact (putSp_perm s _).trans ((foldSp_perm l).cons s)
theorem norm_perm (l : List Sp) (h : (l.map (·.edge)).Nodup) : (normT l).Perm (l.filter someT) := by
  unfold normT
  have hp := foldSp_perm (l.filter someT)
  have hn : (((l.filter someT).map (·.edge))).Nodup := (List.Sublist.map _ List.filter_sublist).nodup h
  rw [joinT_apart _ [] (by simp only [List.map_nil, List.append_nil]; exact (hp.map _).nodup_iff.2 hn)]
  simp only [List.append_nil, List.reverse_reverse]
  exact hp
theorem sum_perm {l m : List Int} (h : l.Perm m) : l.sum = m.sum := by
  induction h with
  | nil => rfl
  | cons x _ ih => simp only [List.sum_cons, ih]
  | swap x y l => simp only [List.sum_cons]; omega
  | trans _ _ a b => exact a.trans b
theorem sumSp_perm {l m : List Sp} (h : l.Perm m) : sumSp l = sumSp m := sum_perm (h.map _)
theorem total_norm (l : List Sp) (h : (l.map (·.edge)).Nodup) : totalT (normT l) = sumSp (l.filter someT) := by
  have hp := norm_perm l h
  have hn : ((normT l).map (·.edge)).Nodup := (hp.map _).nodup_iff.2 ((List.Sublist.map _ List.filter_sublist).nodup h)
  unfold totalT
  rw [sumSp_perm (norm_perm _ hn), sumSp_perm (hp.filter someT), List.filter_filter]
  simp
/-- An edge that is there has a length. -/
theorem edge_len {t : Tp} (hl : ∀ n ∈ t.edges, 1 ≤ n ∧ n ≤ 1000000) {e : Int} (h : thereT t e = true) : 0 ≤ e ∧ 1 ≤ edgeT t e ∧ edgeT t e ≤ 1000000 := by
  unfold thereT at h
  simp only [Bool.and_eq_true, decide_eq_true_eq] at h
  have hi : e.toNat < t.edges.length := by omega
  unfold edgeT
  rw [getElem!_pos t.edges e.toNat hi]
  have := hl _ (List.getElem_mem hi)
  exact ⟨h.1, this⟩
theorem some_piece {t : Tp} (hl : ∀ n ∈ t.edges, 1 ≤ n ∧ n ≤ 1000000) {s : St} (h : thereT t s.edge = true) (fr to_ at_ : Int) :
    (pieceT t fr to_ at_ s).hi - (pieceT t fr to_ at_ s).lo = pieceL fr to_ at_ (edgeT t s.edge) ∧ (someT (pieceT t fr to_ at_ s) = decide (0 < pieceL fr to_ at_ (edgeT t s.edge))) := by
  obtain ⟨h0, h1, h2⟩ := edge_len hl h
  unfold pieceT someT pieceL
  generalize edgeT t s.edge = n at h1 h2
  cases s.rev <;> simp only [Bool.false_eq_true, if_false, if_true]
  · refine ⟨trivial, ?_⟩
    rw [← Bool.decide_and, ← Bool.decide_and, ← Bool.decide_and, decide_eq_decide]
    omega
  · refine ⟨by omega, ?_⟩
    rw [← Bool.decide_and, ← Bool.decide_and, ← Bool.decide_and, decide_eq_decide]
    omega
def lensT (t : Tp) (path : List St) : Int := (path.map fun s => edgeT t s.edge).sum
theorem lens_nonneg {t : Tp} (hl : ∀ n ∈ t.edges, 1 ≤ n ∧ n ≤ 1000000) : ∀ path : List St, (∀ s ∈ path, thereT t s.edge = true) → 0 ≤ lensT t path ∧ lensT t path ≤ 1000000 * path.length
  | [], _ => by simp [lensT]
  | s :: l, h => by
    have ih := lens_nonneg hl l fun x hx => h x (List.mem_cons_of_mem _ hx)
    have := edge_len hl (h s (by simp))
    unfold lensT at ih ⊢
    rw [List.map_cons, List.sum_cons, List.length_cons]
    omega
theorem pieces_total {t : Tp} (hl : ∀ n ∈ t.edges, 1 ≤ n ∧ n ≤ 1000000) (fr to_ : Int) (hf : fr ≤ to_) : ∀ (path : List St) (at_ : Int), (∀ s ∈ path, thereT t s.edge = true) → sumSp ((piecesT t fr to_ path at_).filter someT) = max 0 (min to_ (at_ + lensT t path) - max fr at_)
  | [], at_, _ => by
    simp only [piecesT, List.filter_nil, sumSp, List.map_nil, List.sum_nil, lensT]
    omega
  | s :: l, at_, h => by
    have hs := h s (by simp)
    have hl' : ∀ x ∈ l, thereT t x.edge = true := fun x hx => h x (List.mem_cons_of_mem _ hx)
    have ih := pieces_total hl fr to_ hf l (at_ + edgeT t s.edge) hl'
    have hn := (lens_nonneg hl l hl').1
    obtain ⟨h0, h1, h2⟩ := edge_len hl hs
    obtain ⟨p1, p2⟩ := some_piece hl hs fr to_ at_
    have hlen : lensT t (s :: l) = edgeT t s.edge + lensT t l := by simp [lensT]
    rw [hlen, piecesT, List.filter_cons, p2]
    unfold pieceL at p1 p2 ⊢
    generalize edgeT t s.edge = n at *
    generalize lensT t l = m at *
    by_cases hp : 0 < min (to_ - at_) n - max (fr - at_) 0
    · rw [if_pos (by simpa using hp)]
      have : sumSp (pieceT t fr to_ at_ s :: List.filter someT (piecesT t fr to_ l (at_ + n))) = ((pieceT t fr to_ at_ s).hi - (pieceT t fr to_ at_ s).lo) + sumSp (List.filter someT (piecesT t fr to_ l (at_ + n))) := by simp [sumSp]
      rw [this, ih, p1]
      omega
    · rw [if_neg (by simpa using hp), ih]
      omega
theorem pieces_edges (t : Tp) (fr to_ : Int) : ∀ (path : List St) (at_ : Int), (piecesT t fr to_ path at_).map (·.edge) = path.map (·.edge)
  | [], _ => rfl
  | s :: l, at_ => by
    rw [piecesT, List.map_cons, List.map_cons, pieces_edges t fr to_ l]
    congr 1
    unfold pieceT
    cases s.rev <;> rfl
/-- A way that goes over no edge twice. -/
theorem twice_apart : ∀ (path d : List St), twiceP d path = false → (path.map (·.edge)).Nodup ∧ ∀ s ∈ path, ∀ x ∈ d, x.edge ≠ s.edge
  | [], _, _ => by simp
  | s :: l, d, h => by
    rw [twiceP, Bool.or_eq_false_iff] at h
    obtain ⟨h1, h2⟩ := h
    obtain ⟨i1, i2⟩ := twice_apart l _ h2
    have hs : ∀ x ∈ d, x.edge ≠ s.edge := by
      intro x hx he
      have : overP d s.edge = true := List.any_eq_true.2 ⟨x, hx, by simpa using he⟩
      rw [h1] at this
      cases this
    refine ⟨?_, ?_⟩
    · rw [List.map_cons, List.nodup_cons]
      refine ⟨fun hm => ?_, i1⟩
      obtain ⟨y, hy, he⟩ := List.mem_map.1 hm
      exact i2 y hy s (by simp) he.symm
    · intro y hy x hx
      rcases List.mem_cons.1 hy with rfl | hy
      · exact hs x hx
      · exact i2 y hy x (by simp [hx])
theorem sum_foldl {t : Tp} (hl : ∀ n ∈ t.edges, 1 ≤ n ∧ n ≤ 1000000) : ∀ (path : List St) (a : Int), (∀ s ∈ path, thereT t s.edge = true) → 0 ≤ a → a + 1000000 * path.length ≤ 1000000000 → path.foldl (fun n s => wrap64 (n + edgeT t s.edge)) a = a + lensT t path
  | [], a, _, _, _ => by simp [lensT]
  | s :: l, a, h, h0, hb => by
    have hs := edge_len hl (h s (by simp))
    rw [List.length_cons] at hb
    rw [List.foldl_cons, show wrap64 (a + edgeT t s.edge) = a + edgeT t s.edge by unfold wrap64; omega, sum_foldl hl l _ (fun x hx => h x (List.mem_cons_of_mem _ hx)) (by omega) (by omega)]
    simp only [lensT, List.map_cons, List.sum_cons]
    omega
theorem len_ok {t : Tp} {path : List St} (h : lenE t path = 0) : path.length ≤ 40 ∧ path ≠ [] ∧ (∀ s ∈ path, thereT t s.edge = true) ∧ wayT t path = true := by
  unfold lenE at h
  split at h
  · simp at h
  · rename_i h1
    split at h
    · rename_i h2
      split at h
      · rename_i h3
        refine ⟨by omega, ?_, fun s hs => by simpa using List.all_eq_true.1 h2 s hs, h3⟩
        rintro rfl
        simp at h1
      · simp at h
    · simp at h
theorem len_is {t : Tp} (hl : ∀ n ∈ t.edges, 1 ≤ n ∧ n ≤ 1000000) {path : List St} (h : lenE t path = 0) : lenT t path = lensT t path := by
  obtain ⟨h1, _, h2, _⟩ := len_ok h
  unfold lenT sumT
  rw [if_pos h, sum_foldl hl path 0 h2 (by omega) (by omega), Int.zero_add]
/-- What a way goes over, from one place on it to another. -/
theorem total_over {t : Tp} (hl : ∀ n ∈ t.edges, 1 ≤ n ∧ n ≤ 1000000) {path : List St} (h : lenE t path = 0) (ht : twiceP [] path = false) {fr to_ : Int} (h0 : 0 ≤ fr) (h1 : fr ≤ to_) (h2 : to_ ≤ lenT t path) : totalT (spanT t path fr to_) = to_ - fr := by
  have he : spanE t path fr to_ = 0 := by
    unfold spanE
    rw [if_neg (by omega), if_neg]
    rintro (e | e | e | e)
    · obtain ⟨n, hn, hb⟩ := List.any_eq_true.1 e
      have := hl n hn
      simp at hb
      omega
    · omega
    · omega
    · omega
  obtain ⟨_, _, h3, _⟩ := len_ok h
  unfold spanT
  rw [if_pos he, total_norm _ (by rw [pieces_edges]; exact (twice_apart path [] ht).1), pieces_total hl fr to_ h1 path 0 h3]
  rw [len_is hl h] at h2
  omega
theorem check_edges {t : Tp} (h : checkT t = 0) : ∀ n ∈ t.edges, 1 ≤ n ∧ n ≤ 1000000 := by
  intro n hn
  unfold checkT at h
  split at h
  · simp at h
  · split at h
    · simp at h
    · rename_i h2
      have := fun hh => h2 (List.any_eq_true.2 ⟨n, hn, hh⟩)
      simp at this
      omega
theorem may_ok {t : Tp} {m : Ma} (h : mayP t m = true) : checkT t = 0 ∧ twiceP [] m.path = false ∧ 0 ≤ m.gap ∧ ∃ x, leftP t m = some x ∧ lastP m + m.gap ≤ x.1 := by
  unfold mayP at h
  simp only [Bool.and_eq_true, decide_eq_true_eq, Bool.not_eq_true'] at h
  obtain ⟨⟨⟨⟨⟨⟨⟨⟨h1, h2⟩, h3⟩, h4⟩, h5⟩, h6⟩, h7⟩, h8⟩, h9⟩ := h
  refine ⟨h1, h3, h6, ?_⟩
  cases hx : leftP t m with
  | none => rw [hx] at h9; cases h9
  | some x => rw [hx] at h9; exact ⟨x, rfl, by simpa using h9⟩
theorem bals_ok (t : Tp) : ∀ (l d : List Bl), balsE t d l = 0 → ∀ b ∈ l, thereT t b.edge = true ∧ 0 ≤ b.at_ ∧ b.at_ ≤ edgeT t b.edge
  | [], _, _ => by simp
  | x :: l, d, h => by
    rw [balsE] at h
    split at h
    · simp at h
    · rename_i h1
      split at h
      · simp at h
      · intro b hb
        rcases List.mem_cons.1 hb with rfl | hb
        · simp only [not_or, Bool.not_eq_false] at h1
          exact ⟨h1.2.2.1, by omega, by omega⟩
        · exact bals_ok t l _ h b hb
theorem check_bal {t : Tp} (h : checkT t = 0) {id : Int} {b : Bl} (hb : balT t id = some b) : thereT t b.edge = true ∧ 0 ≤ b.at_ ∧ b.at_ ≤ edgeT t b.edge := by
  have hm : b ∈ t.bals := List.mem_of_find?_eq_some hb
  refine bals_ok t t.bals [] ?_ b hm
  unfold checkT at h
  split at h
  · simp at h
  · split at h
    · simp at h
    · split at h
      · rename_i h3; exact absurd h h3
      · split at h
        · rename_i h4; exact absurd h h4
        · rename_i h4; exact Decidable.not_not.1 h4
theorem left_ok {t : Tp} {m : Ma} (hc : checkT t = 0) {x : Int × Int} (h : leftP t m = some x) : lenE t m.path = 0 ∧ x.1 + x.2 = lenT t m.path ∧ 0 ≤ x.2 := by
  unfold leftP at h
  split at h
  · cases h
  · rename_i b hb
    obtain ⟨h1, h2, h3⟩ := check_bal hc hb
    split at h
    · cases h
    · rename_i h4
      simp only [Option.some.injEq] at h
      subst h
      refine ⟨?_, by simp, ?_⟩
      · by_cases e : lenE t m.path = 0
        · exact e
        · exact absurd (.inr e) h4
      · simp only
        split <;> omega
/-- An authority goes over just so many decimetres as lie between. -/
theorem total_extent {t : Tp} {m : Ma} (h : mayP t m = true) {fr to_ : Int} (h0 : 0 ≤ fr) (h1 : fr ≤ to_) (h2 : to_ ≤ lastP m + m.gap) : totalT (extentT t m fr to_) = to_ - fr := by
  obtain ⟨a1, a2, a3, x, a4, a5⟩ := may_ok h
  obtain ⟨b1, b2, b3⟩ := left_ok a1 a4
  unfold extentT
  rw [if_neg (by rw [h]; simp; omega), a4]
  simp only
  rw [total_over (check_edges a1) b1 a2 (by omega) (by omega) (by omega)]
  omega
theorem sects_rise : ∀ (l : List Sc) (last : Int), sectsP last l = true → ∀ s ∈ l, last < s.to_ ∧ s.to_ ≤ lastP ⟨0, false, [], l, 0⟩
  | [], _, _ => by simp
  | [x], last, h => by
    rw [sectsP] at h
    simp only [Bool.and_eq_true, decide_eq_true_eq] at h
    intro s hs
    rw [List.mem_singleton.1 hs]
    exact ⟨h.1.1.1.1, by simp [lastP]⟩
  | x :: y :: l, last, h => by
    rw [sectsP] at h
    simp only [Bool.and_eq_true, decide_eq_true_eq] at h
    have ih := sects_rise (y :: l) x.to_ h.2
    intro s hs
    have e : lastP ⟨0, false, [], x :: y :: l, 0⟩ = lastP ⟨0, false, [], y :: l, 0⟩ := by unfold lastP; rw [List.getLast?_cons_cons]
    rw [e]
    rcases List.mem_cons.1 hs with rfl | hs
    · have := ih y (by simp)
      omega
    · have := ih s hs
      omega
theorem reach_in : ∀ (l : List Sc) (age n : Int), reachP l age n = n ∨ ∃ s ∈ l, reachP l age n = s.to_
  | [], _, _ => .inl rfl
  | s :: l, age, n => by
    rw [reachP]
    split
    · exact .inl rfl
    · rcases reach_in l age s.to_ with h | ⟨x, hx, h⟩
      · exact .inr ⟨s, by simp, h⟩
      · exact .inr ⟨x, by simp [hx], h⟩
theorem may_sects {t : Tp} {m : Ma} (h : mayP t m = true) : sectsP 0 m.sects = true ∧ m.sects ≠ [] := by
  unfold mayP at h
  simp only [Bool.and_eq_true, decide_eq_true_eq, Bool.not_eq_true'] at h
  obtain ⟨⟨⟨⟨⟨⟨⟨⟨h1, h2⟩, h3⟩, h4⟩, h5⟩, h6⟩, h7⟩, h8⟩, h9⟩ := h
  refine ⟨h8, ?_⟩
  intro e
  rw [e] at h4
  simp at h4
/-- An authority reaches no further than its last section. -/
theorem reach_last {t : Tp} {m : Ma} (h : mayP t m = true) (age : Int) : 0 ≤ reachP m.sects age 0 ∧ reachP m.sects age 0 ≤ lastP m := by
  obtain ⟨h1, h2⟩ := may_sects h
  have hl := sects_rise m.sects 0 h1
  rw [show lastP m = lastP ⟨0, false, [], m.sects, 0⟩ from rfl]
  cases hs : m.sects with
  | nil => exact absurd hs h2
  | cons a l =>
    rw [← hs]
    rcases reach_in m.sects age 0 with e | ⟨s, hm, e⟩
    · rw [e]
      have := hl a (by rw [hs]; simp)
      omega
    · rw [e]
      have := hl s hm
      omega
theorem front_nonneg {t : Tp} {x : Tr} {n : Int} (h : frontX t x = some n) : 0 ≤ n ∧ mayX t x = true ∧ x.held = true ∧ mayP t x.ma = true := by
  unfold frontX at h
  split at h
  · rename_i h1
    have hm : mayP t x.ma = true := by
      have := h1.1
      unfold mayX at this
      rw [h1.2] at this
      simp only [Bool.and_eq_true, if_true] at this
      exact this.2
    refine ⟨?_, h1.1, h1.2, hm⟩
    unfold frontM at h
    split at h
    · cases h
    · split at h
      · simp only [Option.some.injEq] at h
        omega
      · cases h
  · cases h
/-- The plain law of the statement OnboardStops. -/
theorem stops_law {t : Tp} {x : Tr} {n now : Int} (hn : clockP now = true) (h : movedE t x n now = 0) : 1 ≤ n ∧ x.stops = [] ∧ x.held = true ∧ 0 < reachP x.ma.sects (now - x.at_) 0 ∧ authX t x now ≠ [] ∧ n ≤ totalT (authX t x now) := by
  unfold movedE at h
  split at h
  · simp at h
  · rename_i a ha
    split at h
    · simp at h
    · rename_i hs
      split at h
      · simp at h
      · rename_i h1
        split at h
        · simp at h
        · rename_i h2
          obtain ⟨f0, _, f1, f2⟩ := front_nonneg ha
          obtain ⟨r0, r1⟩ := reach_last f2 (now - x.at_)
          obtain ⟨_, _, g0, _⟩ := may_ok f2
          have hst : x.stops = [] := Decidable.not_not.1 hs
          have hau : authX t x now = extentT t x.ma a (reachP x.ma.sects (now - x.at_) 0) := by
            unfold authX
            rw [ha]
            simp only
            rw [if_neg (by rw [hst, hn]; simp), if_neg (by omega)]
          have htot := total_extent f2 f0 (show a ≤ reachP x.ma.sects (now - x.at_) 0 by omega) (by omega)
          rw [← hau] at htot
          refine ⟨by omega, hst, f1, by omega, ?_, by omega⟩
          intro e
          rw [e] at htot
          have : totalT [] = 0 := by decide
          omega
end Go.Proofs.YtpjdcpicfkdioaaGreatDoor
/- Plain: pieces in normal form: two that have the same decimetres are one; so the normal form of any order of the pieces is one. -/
set_option linter.unusedSimpArgs false
set_option linter.unusedVariables false
namespace Go.Proofs.YtpjdcpicfkdioaaGreatDoor

def hasSp (l : List Sp) (e x : Int) : Prop := ∃ s ∈ l, s.edge = e ∧ s.lo ≤ x ∧ x < s.hi
def ahead (a b : Sp) : Prop := a.edge < b.edge ∨ a.edge = b.edge ∧ a.hi < b.lo
theorem hasSp_cons (s : Sp) (l : List Sp) (e x : Int) : hasSp (s :: l) e x ↔ (s.edge = e ∧ s.lo ≤ x ∧ x < s.hi) ∨ hasSp l e x := by
  simp [hasSp]
theorem hasSp_nil (e x : Int) : ¬ hasSp [] e x := by simp [hasSp]
theorem first_le {y : Sp} {m : List Sp} (hp : (y :: m).Pairwise ahead) (hs : ∀ s ∈ y :: m, s.lo < s.hi) {e x : Int} (h : hasSp (y :: m) e x) : y.edge < e ∨ y.edge = e ∧ y.lo ≤ x := by
  rw [List.pairwise_cons] at hp
  obtain ⟨s, hm, h1, h2, h3⟩ := h
  rcases List.mem_cons.1 hm with rfl | hm
  · exact .inr ⟨h1, h2⟩
  · have hy := hs y (by simp)
    rcases hp.1 s hm with h | ⟨h, h4⟩
    · exact .inl (by omega)
    · exact .inr ⟨by omega, by omega⟩
theorem first_hi {y : Sp} {m : List Sp} (hp : (y :: m).Pairwise ahead) : ¬ hasSp (y :: m) y.edge y.hi := by
  rw [List.pairwise_cons] at hp
  rintro ⟨s, hm, h1, h2, h3⟩
  rcases List.mem_cons.1 hm with rfl | hm
  · omega
  · rcases hp.1 s hm with h | ⟨h, h4⟩ <;> omega
theorem tail_has {y : Sp} {m : List Sp} (hp : (y :: m).Pairwise ahead) (e x : Int) : hasSp m e x ↔ hasSp (y :: m) e x ∧ ¬ (y.edge = e ∧ y.lo ≤ x ∧ x < y.hi) := by
  rw [hasSp_cons]
  rw [List.pairwise_cons] at hp
  constructor
  · intro h
    refine ⟨.inr h, ?_⟩
    rintro ⟨h1, h2, h3⟩
    obtain ⟨s, hm, h4, h5, h6⟩ := h
    rcases hp.1 s hm with h | ⟨h, h7⟩ <;> omega
  · rintro ⟨h | h, h2⟩
    · exact absurd h h2
    · exact h
/-- Two normal forms that have the same are one. -/
theorem normal_one : ∀ l m : List Sp, l.Pairwise ahead → m.Pairwise ahead → (∀ s ∈ l, s.lo < s.hi) → (∀ s ∈ m, s.lo < s.hi) → (∀ e x, hasSp l e x ↔ hasSp m e x) → l = m
  | [], [], _, _, _, _, _ => rfl
  | [], y :: m, _, _, _, hm, h => by
    have hy := hm y (by simp)
    exact absurd ((h y.edge y.lo).2 ((hasSp_cons _ _ _ _).2 (.inl ⟨rfl, Int.le_refl _, hy⟩))) (hasSp_nil _ _)
  | y :: l, [], _, _, hm, _, h => by
    have hy := hm y (by simp)
    exact absurd ((h y.edge y.lo).1 ((hasSp_cons _ _ _ _).2 (.inl ⟨rfl, Int.le_refl _, hy⟩))) (hasSp_nil _ _)
  | x :: l, y :: m, pl, pm, hl, hm, h => by
    have hx := hl x (by simp)
    have hy := hm y (by simp)
    have a1 := first_le pm hm ((h x.edge x.lo).1 ((hasSp_cons _ _ _ _).2 (.inl ⟨rfl, Int.le_refl _, hx⟩)))
    have a2 := first_le pl hl ((h y.edge y.lo).2 ((hasSp_cons _ _ _ _).2 (.inl ⟨rfl, Int.le_refl _, hy⟩)))
    have e1 : x.edge = y.edge := by omega
    have e2 : x.lo = y.lo := by omega
    have e3 : x.hi = y.hi := by
      rcases Int.lt_trichotomy x.hi y.hi with g | g | g
      · exact absurd ((h x.edge x.hi).2 ((hasSp_cons _ _ _ _).2 (.inl ⟨e1.symm, by omega, g⟩))) (first_hi pl)
      · exact g
      · exact absurd ((h y.edge y.hi).1 ((hasSp_cons _ _ _ _).2 (.inl ⟨e1, by omega, g⟩))) (first_hi pm)
    have e : x = y := by
      obtain ⟨x1, x2, x3⟩ := x
      obtain ⟨y1, y2, y3⟩ := y
      simp only at e1 e2 e3
      rw [e1, e2, e3]
    subst e
    rw [normal_one l m (List.pairwise_cons.1 pl).2 (List.pairwise_cons.1 pm).2 (fun s hs => hl s (List.mem_cons_of_mem _ hs)) (fun s hs => hm s (List.mem_cons_of_mem _ hs))]
    intro e x'
    rw [tail_has pl, tail_has pm, h]
/-- What is joined is in normal form (the last one first), and has what there was. -/
theorem join_normal : ∀ (l out : List Sp), out.Pairwise (fun a b => ahead b a) → (∀ s ∈ out, s.lo < s.hi) → (∀ s ∈ l, s.lo < s.hi) → l.Pairwise keyLe → (∀ o, out.head? = some o → ∀ s ∈ l, keyLe o s) →
    (joinT out l).Pairwise (fun a b => ahead b a) ∧ (∀ s ∈ joinT out l, s.lo < s.hi) ∧ ∀ e x, hasSp (joinT out l) e x ↔ hasSp out e x ∨ hasSp l e x
  | [], out, hp, ho, _, _, _ => by
    rw [joinT.eq_def]
    simp only
    exact ⟨hp, ho, fun e x => ⟨.inl, fun h => h.elim id (fun h => absurd h (hasSp_nil _ _))⟩⟩
  | s :: l, [], _, _, hl, hs, _ => by
    rw [List.pairwise_cons] at hs
    have := join_normal l [s] (by simp) (by intro y hy; rw [List.mem_singleton] at hy; subst hy; exact hl _ (by simp)) (fun y hy => hl y (List.mem_cons_of_mem _ hy)) hs.2 (by intro o ho y hy; simp at ho; subst ho; exact hs.1 y hy)
    rw [joinT]
    refine ⟨this.1, this.2.1, fun e x => ?_⟩
    rw [this.2.2 e x, hasSp_cons, hasSp_cons]
    have h0 := hasSp_nil e x
    constructor
    · rintro ((h | h) | h)
      · exact .inr (.inl h)
      · exact absurd h h0
      · exact .inr (.inr h)
    · rintro (h | h | h)
      · exact absurd h h0
      · exact .inl (.inl h)
      · exact .inr h
  | s :: l, o :: out, hp, ho, hl, hs, hk => by
    rw [List.pairwise_cons] at hp hs
    have hos := hk o rfl s (by simp)
    have h1 := ho o (by simp)
    have h2 := hl s (by simp)
    rw [joinT]
    by_cases hc : o.edge = s.edge ∧ s.lo ≤ o.hi
    · rw [if_pos hc]
      have hkl : o.lo ≤ s.lo := by
        rcases hos with h | h <;> omega
      have := join_normal l (⟨o.edge, o.lo, max o.hi s.hi⟩ :: out) ?_ ?_ (fun y hy => hl y (List.mem_cons_of_mem _ hy)) hs.2 ?_
      · refine ⟨this.1, this.2.1, fun e x => ?_⟩
        rw [this.2.2 e x, hasSp_cons, hasSp_cons, hasSp_cons]
        simp only
        constructor
        · rintro ((h | h) | h)
          · by_cases hx : x < o.hi
            · exact .inl (.inl ⟨h.1, h.2.1, hx⟩)
            · exact .inr (.inl ⟨by omega, by omega, by omega⟩)
          · exact .inl (.inr h)
          · exact .inr (.inr h)
        · rintro ((h | h) | h | h)
          · exact .inl (.inl ⟨h.1, h.2.1, by omega⟩)
          · exact .inl (.inr h)
          · exact .inl (.inl ⟨by omega, by omega, by omega⟩)
          · exact .inr h
      · refine List.pairwise_cons.2 ⟨fun b hb => ?_, hp.2⟩
        rcases hp.1 b hb with h | h
        · exact .inl h
        · exact .inr h
      · intro y hy
        rcases List.mem_cons.1 hy with rfl | hy
        · show o.lo < max o.hi s.hi
          omega
        · exact ho y (List.mem_cons_of_mem _ hy)
      · intro o' ho' y hy
        simp at ho'
        subst ho'
        exact hk o rfl y (List.mem_cons_of_mem _ hy)
    · rw [if_neg hc]
      have hah : ahead o s := by
        rcases hos with h | h
        · exact .inl h
        · exact .inr ⟨h.1, by omega⟩
      have := join_normal l (s :: o :: out) ?_ ?_ (fun y hy => hl y (List.mem_cons_of_mem _ hy)) hs.2 ?_
      · refine ⟨this.1, this.2.1, fun e x => ?_⟩
        rw [this.2.2 e x, hasSp_cons, hasSp_cons s l]
        constructor
        · rintro ((h | h) | h)
          · exact .inr (.inl h)
          · exact .inl h
          · exact .inr (.inr h)
        · rintro (h | h | h)
          · exact .inl (.inr h)
          · exact .inl (.inl h)
          · exact .inr h
      · refine List.pairwise_cons.2 ⟨fun b hb => ?_, List.pairwise_cons.2 hp⟩
        rcases List.mem_cons.1 hb with rfl | hb
        · exact hah
        · rcases hp.1 b hb with h | ⟨h, h'⟩
          · rcases hos with g | g
            · exact .inl (by omega)
            · exact .inl (by omega)
          · rcases hos with g | g
            · exact .inl (by omega)
            · exact .inr ⟨by omega, by omega⟩
      · intro y hy
        rcases List.mem_cons.1 hy with rfl | hy
        · exact h2
        · exact ho y hy
      · intro o' ho' y hy
        simp at ho'
        subst ho'
        exact hs.1 y hy
theorem spLe_key {a b : Sp} : spLe a b = true ↔ keyLe a b := by
  unfold spLe keyLe
  simp
theorem putSp_sorted (s : Sp) : ∀ l : List Sp, l.Pairwise keyLe → (putSp s l).Pairwise keyLe
  | [], _ => by simp [putSp]
  | x :: l, h => by
    rw [putSp]
    have h' := List.pairwise_cons.1 h
    split
    · rename_i hle
      have hk := spLe_key.1 hle
      refine List.pairwise_cons.2 ⟨fun y hy => ?_, h⟩
      rcases List.mem_cons.1 hy with rfl | hy
      · exact hk
      · have := h'.1 y hy
        unfold keyLe at *
        omega
    · rename_i hle
      have hk : keyLe x s := by
        have : ¬ keyLe s x := fun h => hle (spLe_key.2 h)
        unfold keyLe at *
        omega
      refine List.pairwise_cons.2 ⟨fun y hy => ?_, putSp_sorted s l h'.2⟩
      rcases List.mem_cons.1 ((putSp_perm s l).mem_iff.1 hy) with rfl | hy
      · exact hk
      · exact h'.1 y hy
theorem foldSp_sorted : ∀ l : List Sp, (l.foldr putSp []).Pairwise keyLe
  | [] => .nil
  | s :: l => by
    rw [List.foldr_cons]
    exact putSp_sorted s _ (foldSp_sorted l)
theorem some_lt {s : Sp} (h : someT s = true) : s.lo < s.hi := by
  unfold someT at h
  simp only [Bool.and_eq_true, decide_eq_true_eq] at h
  omega
theorem hasSp_perm {l m : List Sp} (h : l.Perm m) (e x : Int) : hasSp l e x ↔ hasSp m e x := by
  unfold hasSp
  constructor
  · rintro ⟨s, hs, hh⟩
    exact ⟨s, h.mem_iff.1 hs, hh⟩
  · rintro ⟨s, hs, hh⟩
    exact ⟨s, h.mem_iff.2 hs, hh⟩
/-- However the pieces were put in order: joined, they are one. -/
theorem norm_any {l d : List Sp} (hp : d.Perm (l.filter someT)) (hs : d.Pairwise keyLe) : (joinT [] d).reverse = normT l := by
  unfold normT
  have h0 : ∀ s ∈ l.filter someT, s.lo < s.hi := fun s h => some_lt (List.mem_filter.1 h).2
  have hq := foldSp_perm (l.filter someT)
  have hd : ∀ s ∈ d, s.lo < s.hi := fun s h => h0 s (hp.mem_iff.1 h)
  have hf : ∀ s ∈ (l.filter someT).foldr putSp [], s.lo < s.hi := fun s h => h0 s (hq.mem_iff.1 h)
  have a := join_normal d [] .nil (by simp) hd hs (by simp)
  have b := join_normal ((l.filter someT).foldr putSp []) [] .nil (by simp) hf (foldSp_sorted _) (by simp)
  refine normal_one _ _ (List.pairwise_reverse.2 a.1) (List.pairwise_reverse.2 b.1) (fun s h => a.2.1 s (List.mem_reverse.1 h)) (fun s h => b.2.1 s (List.mem_reverse.1 h)) fun e x => ?_
  rw [hasSp_perm (List.reverse_perm _), hasSp_perm (List.reverse_perm _), a.2.2, b.2.2, hasSp_perm (hp.trans hq.symm)]
end Go.Proofs.YtpjdcpicfkdioaaGreatDoor
