/- Links in plain Lean, and how they lie in memory. -/
import Derived.Test.YtiloammjejggjaaBytesNew
import Derived.Test.YtiloammjejggjaaBytesStr
set_option linter.unusedSimpArgs false
set_option linter.unusedVariables false
namespace Go.Proofs.Ytiloammjejggjaa
open Go.RowKit

def isTime (n : Int) : Bool := decide (0 ≤ n) && decide (n ≤ 4294967294)
def isSized (b : List UInt8) : Bool := decide (1 ≤ b.length) && decide (b.length ≤ 1023)
/-- A message that waits. -/
structure Wt where
  t : Int
  due : Int
  tries : Int
  body : List UInt8
/-- A link. -/
structure Lk where
  period : Int
  most : Int
  quiet : Int
  heard : Int
  waits : List Wt
def Lk.zero : Lk := ⟨0, 0, 0, 0, []⟩
def wtOk (most last : Int) (x : Wt) : Bool := isTime x.t && decide (last < x.t) && decide (0 ≤ x.due) && decide (x.due ≤ 8589934592) && decide (0 ≤ x.tries) && decide (x.tries ≤ most) && isSized x.body
def wtsOk (most : Int) : Int → List Wt → Bool
  | _, [] => true
  | last, x :: xs => wtOk most last x && wtsOk most x.t xs
def headOk (l : Lk) : Bool := decide (1 ≤ l.period) && decide (l.period ≤ 1048576) && decide (1 ≤ l.quiet) && decide (l.quiet ≤ 1048576) && decide (0 ≤ l.most) && decide (l.most ≤ 20) && isTime l.heard && decide (l.waits.length ≤ 8)
def mayL (l : Lk) : Bool := headOk l && wtsOk l.most (-1) l.waits

theorem isTime_iff {n : Int} : isTime n = true ↔ 0 ≤ n ∧ n ≤ 4294967294 := by simp [isTime]
theorem isSized_iff {b : List UInt8} : isSized b = true ↔ 1 ≤ b.length ∧ b.length ≤ 1023 := by simp [isSized]
theorem wtOk_iff {most last : Int} {x : Wt} : wtOk most last x = true ↔ isTime x.t = true ∧ last < x.t ∧ 0 ≤ x.due ∧ x.due ≤ 8589934592 ∧ 0 ≤ x.tries ∧ x.tries ≤ most ∧ isSized x.body = true := by
  simp [wtOk, and_assoc]
theorem headOk_iff {l : Lk} : headOk l = true ↔ 1 ≤ l.period ∧ l.period ≤ 1048576 ∧ 1 ≤ l.quiet ∧ l.quiet ≤ 1048576 ∧ 0 ≤ l.most ∧ l.most ≤ 20 ∧ isTime l.heard = true ∧ l.waits.length ≤ 8 := by
  simp [headOk, and_assoc]
/-- The last time ahead of place k. -/
def lastT (ws : List Wt) (k : Nat) : Int := match k with
  | 0 => -1
  | k + 1 => ((ws[k]?).map (·.t)).getD (-1)
theorem lastT_succ {ws : List Wt} {k : Nat} {x : Wt} (h : ws[k]? = some x) : lastT ws (k + 1) = x.t := by simp [lastT, h]
theorem wtsOk_drop {most : Int} {ws : List Wt} {k : Nat} {x : Wt} (h : ws[k]? = some x) : wtsOk most (lastT ws k) (ws.drop k) = (wtOk most (lastT ws k) x && wtsOk most (lastT ws (k + 1)) (ws.drop (k + 1))) := by
  obtain ⟨hk, rfl⟩ := List.getElem?_eq_some_iff.1 h
  rw [List.drop_eq_getElem_cons hk, wtsOk, lastT_succ h]
theorem wtsOk_end {most : Int} {ws : List Wt} {k : Nat} (h : ws.length ≤ k) : wtsOk most (lastT ws k) (ws.drop k) = true := by rw [List.drop_eq_nil_of_le h]; rfl

/-- The cells of a message, whose body is this slice. -/
def wcell (p : Wt × Value) : List Value := [.int .i64 p.1.t, .int .i64 p.1.due, .int .i64 p.1.tries, p.2]
def flat (xs : List (Wt × Value)) : List Value := xs.flatMap wcell
theorem flat_nil : flat [] = [] := rfl
theorem flat_cons (p : Wt × Value) (xs : List (Wt × Value)) : flat (p :: xs) = wcell p ++ flat xs := rfl
theorem flat_append (xs ys : List (Wt × Value)) : flat (xs ++ ys) = flat xs ++ flat ys := by simp [flat]
theorem flat_length (xs : List (Wt × Value)) : (flat xs).length = xs.length * 4 := by
  induction xs with
  | nil => rfl
  | cons p xs ih => rw [flat_cons, List.length_append, ih, List.length_cons]; simp only [wcell, List.length_cons, List.length_nil]; omega
theorem flat_drop (xs : List (Wt × Value)) (k : Nat) : (flat xs).drop (k * 4) = flat (xs.drop k) := by
  induction xs generalizing k with
  | nil => simp [flat]
  | cons p xs ih =>
    cases k with
    | zero => simp
    | succ k =>
      rw [flat_cons, List.drop_succ_cons, ← ih k, show (k + 1) * 4 = (wcell p).length + k * 4 by simp only [wcell, List.length_cons, List.length_nil]; omega, List.drop_append]
      simp
theorem flat_take (xs : List (Wt × Value)) (k : Nat) : (flat xs).take (k * 4) = flat (xs.take k) := by
  induction xs generalizing k with
  | nil => simp [flat]
  | cons p xs ih =>
    cases k with
    | zero => simp [flat]
    | succ k =>
      rw [flat_cons, List.take_succ_cons, flat_cons, ← ih k, show (k + 1) * 4 = (wcell p).length + k * 4 by simp only [wcell, List.length_cons, List.length_nil]; omega, List.take_append, List.take_of_length_le (by omega)]
      simp
theorem flat_at {xs : List (Wt × Value)} {k : Nat} {p : Wt × Value} (h : xs[k]? = some p) (j : Nat) (hj : j < 4) : (flat xs)[k * 4 + j]? = (wcell p)[j]? := by
  obtain ⟨hk, rfl⟩ := List.getElem?_eq_some_iff.1 h
  have : (flat xs)[k * 4 + j]? = ((flat xs).drop (k * 4))[j]? := by rw [List.getElem?_drop]
  rw [this, flat_drop, List.drop_eq_getElem_cons hk, flat_cons, List.getElem?_append_left (by simpa [wcell] using hj)]
theorem flat_one (xs : List (Wt × Value)) (h : ∀ p ∈ xs, p.2.oneCell' = true) : ∀ u ∈ flat xs, u.oneCell' = true := by
  intro u hu
  unfold flat at hu
  rw [List.mem_flatMap] at hu
  obtain ⟨p, hp, hu⟩ := hu
  simp only [wcell, List.mem_cons, List.not_mem_nil, or_false] at hu
  rcases hu with rfl | rfl | rfl | rfl
  · rfl
  · rfl
  · rfl
  · exact h p hp

/-- At A lie these messages; each body reads as it says. -/
structure WaitsAt (w : World) (A : Option Addr) (xs : List (Wt × Value)) : Prop where
  row : Row w A (flat xs)
  body : ∀ p ∈ xs, IsBytes p.1.body p.2 w
theorem IsBytes.one {bs : List UInt8} {v : Value} {w : World} (h : IsBytes bs v w) : v.oneCell' = true := by
  obtain ⟨A, c, rfl, _⟩ := h
  rfl
section
variable {w w' : World} {A : Option Addr} {xs : List (Wt × Value)}
theorem WaitsAt.below (h : WaitsAt w A xs) (hb : Below w.heap.size w w') : WaitsAt w' A xs := ⟨h.row.below hb, fun p hp => (h.body p hp).grow hb⟩
theorem WaitsAt.alloc (h : WaitsAt w A xs) (o : Obj) : WaitsAt (w.alloc o) A xs := h.below ((Below.refl _ _).alloc (Nat.le_refl _) o)
theorem WaitsAt.nil (w : World) (A : Option Addr) : WaitsAt w A [] := ⟨Row.nil w A, fun p hp => absurd hp List.not_mem_nil⟩
theorem WaitsAt.one (h : WaitsAt w A xs) : ∀ u ∈ flat xs, u.oneCell' = true := flat_one xs fun p hp => (h.body p hp).one
/-- The cells of one of them. -/
theorem WaitsAt.at_ {k : Nat} {p : Wt × Value} (h : WaitsAt w A xs) (hk : xs[k]? = some p) : ∃ b off, A = some ⟨b, off, none⟩ ∧ b < w.heap.size ∧
    w.cell? ⟨b, off + k * 4, none⟩ = some (.int .i64 p.1.t) ∧ w.cell? ⟨b, off + k * 4 + 1, none⟩ = some (.int .i64 p.1.due) ∧ w.cell? ⟨b, off + k * 4 + 2, none⟩ = some (.int .i64 p.1.tries) ∧ w.cell? ⟨b, off + k * 4 + 3, none⟩ = some p.2 := by
  have hlen : 0 < (flat xs).length := by
    have := (List.getElem?_eq_some_iff.1 hk).1
    rw [flat_length]; omega
  obtain ⟨b, off, e, hb, hc⟩ := h.row hlen
  refine ⟨b, off, e, hb, ?_, ?_, ?_, ?_⟩
  · have := hc (k * 4 + 0) _ (flat_at hk 0 (by decide)); simpa using this
  · have := hc (k * 4 + 1) _ (flat_at hk 1 (by decide)); rw [← Nat.add_assoc] at this; exact this
  · have := hc (k * 4 + 2) _ (flat_at hk 2 (by decide)); rw [← Nat.add_assoc] at this; exact this
  · have := hc (k * 4 + 3) _ (flat_at hk 3 (by decide)); rw [← Nat.add_assoc] at this; exact this
theorem WaitsAt.get {ws : List Wt} {k : Nat} (h : WaitsAt w A xs) (hx : xs.map (·.1) = ws) (hk : k < ws.length) : ∃ x Ab cb b off, ws[k]? = some x ∧ xs[k]? = some (x, .slice Ab x.body.length cb) ∧ A = some ⟨b, off, none⟩ ∧ b < w.heap.size ∧
    w.cell? ⟨b, off + k * 4, none⟩ = some (.int .i64 x.t) ∧ w.cell? ⟨b, off + k * 4 + 1, none⟩ = some (.int .i64 x.due) ∧ w.cell? ⟨b, off + k * 4 + 2, none⟩ = some (.int .i64 x.tries) ∧ w.cell? ⟨b, off + k * 4 + 3, none⟩ = some (.slice Ab x.body.length cb) ∧ Bytes w Ab cb x.body := by
  subst hx
  rw [List.length_map] at hk
  have hp : xs[k]? = some xs[k] := List.getElem?_eq_getElem hk
  obtain ⟨b, off, e, hb, h0, h1, h2, h3⟩ := h.at_ hp
  obtain ⟨Ab, cb, hv, hB⟩ := h.body _ (List.mem_of_getElem? hp)
  generalize xs[k] = p at *
  obtain ⟨x, v⟩ := p
  simp only at hv
  subst hv
  exact ⟨x, Ab, cb, b, off, by rw [List.getElem?_map, hp]; rfl, hp, e, hb, h0, h1, h2, h3, hB⟩
end
/-- A value that is a slice of these messages. -/
def IsWaits (ws : List Wt) : Value → World → Prop := fun v w => ∃ A c xs, v = .slice A ws.length c ∧ xs.map (·.1) = ws ∧ WaitsAt w A xs ∧ ws.length ≤ c ∧ c ≤ maxLen
theorem IsWaits.grow {ws : List Wt} {v : Value} {w w' : World} (h : IsWaits ws v w) (hb : Below w.heap.size w w') : IsWaits ws v w' := by
  obtain ⟨A, c, xs, e, hx, hW, h1, h2⟩ := h
  exact ⟨A, c, xs, e, hx, hW.below hb, h1, h2⟩
theorem IsWaits.nil (w : World) : IsWaits [] (.slice none 0 0) w := ⟨none, 0, [], rfl, rfl, WaitsAt.nil w none, Nat.le_refl _, Nat.zero_le _⟩
/-- A value that is this link. -/
def IsLink (l : Lk) : Value → World → Prop := fun v w => ∃ u, v = .agg #[.int .i64 l.period, .int .i64 l.most, .int .i64 l.quiet, .int .i64 l.heard, u] ∧ IsWaits l.waits u w
theorem IsLink.grow {l : Lk} {v : Value} {w w' : World} (h : IsLink l v w) (hb : Below w.heap.size w w') : IsLink l v w' := by
  obtain ⟨u, e, hu⟩ := h
  exact ⟨u, e, hu.grow hb⟩
end Go.Proofs.Ytiloammjejggjaa
