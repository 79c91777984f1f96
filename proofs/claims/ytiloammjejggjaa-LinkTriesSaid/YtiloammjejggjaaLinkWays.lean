/- How the operations of a drawn region that stores a link into a box of its own may turn the world; words on their values. -/
import Derived.Test.YtiloammjejggjaaLinkAwake
import Derived.Test.YtiloammjejggjaaRegionTU
set_option linter.unusedSimpArgs false
set_option linter.unusedVariables false
namespace Go.Proofs.Ytiloammjejggjaa
open Go.RowKit

def no8 (cs : Array Value) : Bool := cs.all fun v => !is8 v
/-- How an operation may turn the world: the one numbered s stores a link into a box; the others make memory at most. -/
def WaysA (B s i : Nat) (w w' : World) : Prop := Below B w w' ∧ (i ≠ s → Below w.heap.size w w') ∧ (i = s → w' = w ∨ ∃ g cs new, Blk w g 25 cs ∧ no8 cs = true ∧ Blk w' g 25 new ∧ no8 new = true ∧ new.size = cs.size ∧ w'.heap.size = w.heap.size ∧ ∀ k, k ≠ g → w'.heap[k]? = w.heap[k]?)
theorem waysA_same (B s i : Nat) (w : World) : WaysA B s i w w := ⟨Below.refl _ _, fun _ => Below.refl _ _, fun _ => .inl rfl⟩
theorem waysA_below {B s i : Nat} {w w' : World} (hB : B ≤ w.heap.size) (h : Below w.heap.size w w') (hi : i ≠ s) : WaysA B s i w w' := ⟨h.mono hB, fun _ => h, fun e => absurd e hi⟩
def BoxW (B : Nat) : Value → World → Prop := fun v w => ∃ g cs, v = .pointer (some ⟨g, 0, none⟩) ∧ B ≤ g ∧ Blk w g 25 cs ∧ cs.size = 5 ∧ no8 cs = true
theorem BoxW.keep {B s i : Nat} {v : Value} {w w' : World} (h : BoxW B v w) (ht : WaysA B s i w w') : BoxW B v w' := by
  obtain ⟨g, cs, e, hg, hb, hs, hn⟩ := h
  by_cases hi : i = s
  · rcases ht.2.2 hi with rfl | ⟨g', cs', new, h1, h2, h3, h4, h5, h6, h7⟩
    · exact ⟨g, cs, e, hg, hb, hs, hn⟩
    · by_cases hgg : g = g'
      · subst hgg
        refine ⟨g, new, e, hg, h3, ?_, h4⟩
        have : cs' = cs := by
          unfold Blk at h1 hb
          rw [hb] at h1
          simp at h1
          exact h1.symm
        rw [h5, this, hs]
      · exact ⟨g, cs, e, hg, (h7 g hgg).trans hb, hs, hn⟩
  · exact ⟨g, cs, e, hg, hb.below (ht.2.1 hi) hb.lt, hs, hn⟩
theorem IsWaitsN.keep {base B s i : Nat} {ws : List Wt} {v : Value} {w w' : World} (h : IsWaitsN base ws v w) (ht : WaysA B s i w w') : IsWaitsN base ws v w' := by
  by_cases hi : i = s
  · rcases ht.2.2 hi with rfl | ⟨g', cs', new, h1, h2, h3, h4, h5, h6, h7⟩
    · exact h
    · exact h.farT h1 h2 h6 h7
  · exact h.grow (ht.2.1 hi)
/-- A link and no error, as a call hands them back; a link alone. -/
def ResA (x1 x2 x3 x4 er : Int) (ws : List Wt) (n : Nat) : Value → World → Prop := fun v w => ∃ A c, v = .tuple #[.agg #[.int .i64 x1, .int .i64 x2, .int .i64 x3, .int .i64 x4, .slice A n c], .int .i64 er] ∧ IsWaitsN 0 ws (.slice A n c) w
def AggA (x1 x2 x3 x4 : Int) (ws : List Wt) (n : Nat) : Value → World → Prop := fun v w => ∃ A c, v = .agg #[.int .i64 x1, .int .i64 x2, .int .i64 x3, .int .i64 x4, .slice A n c] ∧ IsWaitsN 0 ws (.slice A n c) w
theorem ResA.keep {x1 x2 x3 x4 er : Int} {ws : List Wt} {n B s i : Nat} {v : Value} {w w' : World} (h : ResA x1 x2 x3 x4 er ws n v w) (ht : WaysA B s i w w') : ResA x1 x2 x3 x4 er ws n v w' := by
  obtain ⟨A, c, e, hu⟩ := h
  exact ⟨A, c, e, hu.keep ht⟩
theorem AggA.keep {x1 x2 x3 x4 : Int} {ws : List Wt} {n B s i : Nat} {v : Value} {w w' : World} (h : AggA x1 x2 x3 x4 ws n v w) (ht : WaysA B s i w w') : AggA x1 x2 x3 x4 ws n v w' := by
  obtain ⟨A, c, e, hu⟩ := h
  exact ⟨A, c, e, hu.keep ht⟩
/-- The box that operation j laid holds a link. -/
def FullA (B j : Nat) (x1 x2 x3 x4 : Int) (ws : List Wt) (n : Nat) : (Nat → Value) → World → Prop := fun u w => ∃ g A c, u j = .pointer (some ⟨g, 0, none⟩) ∧ B ≤ g ∧ Blk w g 25 #[.int .i64 x1, .int .i64 x2, .int .i64 x3, .int .i64 x4, .slice A n c] ∧ IsWaitsN 0 ws (.slice A n c) w
theorem FullA.keep {B j s i : Nat} {x1 x2 x3 x4 : Int} {ws : List Wt} {n : Nat} {u : Nat → Value} {v : Value} {w w' : World} (h : FullA B j x1 x2 x3 x4 ws n u w) (ht : WaysA B s i w w') (hi : i ≠ s) (hj : i ≠ j) : FullA B j x1 x2 x3 x4 ws n (upd u i v) w' := by
  obtain ⟨g, A, c, e, hg, hb, hu⟩ := h
  exact ⟨g, A, c, by rw [upd_other u v (fun e => hj e.symm)]; exact e, hg, hb.below (ht.2.1 hi) hb.lt, hu.keep ht⟩
/-- What done hands back, and its three parts. -/
def ResD (x1 x2 x3 x4 : Int) (ws : List Wt) (bss : List (List UInt8)) (b : Bool) : Value → World → Prop := fun v w => ∃ A n c Ao q co, v = .tuple #[.agg #[.int .i64 x1, .int .i64 x2, .int .i64 x3, .int .i64 x4, .slice A n c], .slice Ao q co, .bool b] ∧ IsWaitsN 0 ws (.slice A n c) w ∧ PartsT w 0 (.slice Ao q co) bss
def AggD (x1 x2 x3 x4 : Int) (ws : List Wt) : Value → World → Prop := fun v w => ∃ A n c, v = .agg #[.int .i64 x1, .int .i64 x2, .int .i64 x3, .int .i64 x4, .slice A n c] ∧ IsWaitsN 0 ws (.slice A n c) w
def PartsD (bss : List (List UInt8)) : Value → World → Prop := fun v w => ∃ Ao q co, v = .slice Ao q co ∧ PartsT w 0 (.slice Ao q co) bss
def FullD (B j : Nat) (x1 x2 x3 x4 : Int) (ws : List Wt) : (Nat → Value) → World → Prop := fun u w => ∃ g A n c, u j = .pointer (some ⟨g, 0, none⟩) ∧ B ≤ g ∧ Blk w g 25 #[.int .i64 x1, .int .i64 x2, .int .i64 x3, .int .i64 x4, .slice A n c] ∧ IsWaitsN 0 ws (.slice A n c) w
theorem PartsT.keep {base B s i : Nat} {v : Value} {bss : List (List UInt8)} {w w' : World} (h : PartsT w base v bss) (ht : WaysA B s i w w') : PartsT w' base v bss := by
  by_cases hi : i = s
  · rcases ht.2.2 hi with rfl | ⟨g', cs', new, h1, h2, h3, h4, h5, h6, h7⟩
    · exact h
    · exact h.farL h1 ⟨ht.1.os, ht.1.tape, ht.1.output, by omega, fun k _ hn => h7 k (fun e => hn (by rw [e]))⟩
  · exact h.grow (ht.2.1 hi)
theorem ResD.keep {x1 x2 x3 x4 : Int} {ws : List Wt} {bss : List (List UInt8)} {b : Bool} {B s i : Nat} {v : Value} {w w' : World} (h : ResD x1 x2 x3 x4 ws bss b v w) (ht : WaysA B s i w w') : ResD x1 x2 x3 x4 ws bss b v w' := by
  obtain ⟨A, n, c, Ao, q, co, e, hu, hp⟩ := h
  exact ⟨A, n, c, Ao, q, co, e, hu.keep ht, hp.keep ht⟩
theorem AggD.keep {x1 x2 x3 x4 : Int} {ws : List Wt} {B s i : Nat} {v : Value} {w w' : World} (h : AggD x1 x2 x3 x4 ws v w) (ht : WaysA B s i w w') : AggD x1 x2 x3 x4 ws v w' := by
  obtain ⟨A, n, c, e, hu⟩ := h
  exact ⟨A, n, c, e, hu.keep ht⟩
theorem PartsD.keep {bss : List (List UInt8)} {B s i : Nat} {v : Value} {w w' : World} (h : PartsD bss v w) (ht : WaysA B s i w w') : PartsD bss v w' := by
  obtain ⟨Ao, q, co, e, hp⟩ := h
  exact ⟨Ao, q, co, e, hp.keep ht⟩
theorem FullD.keep {B j s i : Nat} {x1 x2 x3 x4 : Int} {ws : List Wt} {u : Nat → Value} {v : Value} {w w' : World} (h : FullD B j x1 x2 x3 x4 ws u w) (ht : WaysA B s i w w') (hi : i ≠ s) (hj : i ≠ j) : FullD B j x1 x2 x3 x4 ws (upd u i v) w' := by
  obtain ⟨g, A, n, c, e, hg, hb, hu⟩ := h
  exact ⟨g, A, n, c, by rw [upd_other u v (fun e => hj e.symm)]; exact e, hg, hb.below (ht.2.1 hi) hb.lt, hu.keep ht⟩
end Go.Proofs.Ytiloammjejggjaa
