/- What may be. -/
import Derived.Test.YtnngknmmokajgaaPduRef
set_option linter.unusedSimpArgs false
set_option linter.unusedVariables false
namespace Go.Proofs.Ytnngknmmokajgaa
open Go.RowKit Go.Shelf

/-- A PDU as the program has it, with this body. -/
def pduV (p : P7) (v : Value) : Array Value := #[.int .i64 p.kind, .int .i64 p.dir, .int .i64 p.train, q32 p.a, q32 p.b, v, q64 p.mac]
theorem len_nil (l : List UInt8) : ((l.length : Int) == 0) = decide (l = []) := by
  rw [Bool.eq_iff_iff]; simp
theorem len_one (l : List UInt8) : ((l.length : Int) == 1) = decide (l.length = 1) := by
  rw [Bool.eq_iff_iff]; simp; omega
set_option maxHeartbeats 2000000 in
theorem may_k (p : P7) (A : Option Addr) (n c : Nat) (w : World) (hn : n = p.body.length) (hlen : p.body.length ≤ 65536) :
    Calls Try.prog 42 #[.agg #[.int .i64 p.kind, .int .i64 p.dir, .int .i64 p.train, q32 p.a, q32 p.b, .slice A n c, q64 p.mac]] w fun e w' => e = .returned (.bool (may p)) ∧ Below w.heap.size w w' := by
  subst hn
  obtain ⟨kind, dir, train, a, b, body, mac⟩ := p
  simp only at hlen ⊢
  have hnew : ∀ o, Below w.heap.size w (w.alloc o) := fun o => (Below.refl _ _).alloc (Nat.le_refl _) o
  by_cases g : 0 ≤ train ∧ train < 16777216 ∧ 0 ≤ dir ∧ dir ≤ 1
  · obtain ⟨g1, g2, g3, g4⟩ := g
    go_enter Try.func42, Try.ntmps42
    go_wp2
    all_goals
      go_ret
      refine ⟨congrArg (fun b => Ending.returned (Value.bool b)) ?_, hnew _⟩
      simp_all [may, MayP]
      try first
        | exact len_nil _
        | exact len_one _
        | (rw [Bool.eq_iff_iff]; simp; omega)
        | omega
  · have hf : may ⟨kind, dir, train, a, b, body, mac⟩ = false := by
      unfold may
      rw [decide_eq_false_iff_not]
      intro h
      exact g ⟨h.1, h.2.1, h.2.2.1, h.2.2.2.1⟩
    rw [hf]
    go_enter Try.func42, Try.ntmps42
    go_wp2
    all_goals
      go_ret
      refine ⟨congrArg (fun b => Ending.returned (Value.bool b)) ?_, hnew _⟩
      simp_all [may, MayP]
      try first
        | exact len_nil _
        | exact len_one _
        | (rw [Bool.eq_iff_iff]; simp; omega)
        | omega
set_option maxHeartbeats 2000000 in
theorem rmay_k (p : P7) (A : Option Addr) (n c : Nat) (w : World) (hn : n = p.body.length) (hlen : p.body.length ≤ 65536) :
    Calls Try.prog 52 #[.agg #[.int .i64 p.kind, .int .i64 p.dir, .int .i64 p.train, q32 p.a, q32 p.b, .slice A n c, q64 p.mac]] w fun e w' => e = .returned (.bool (may p)) ∧ Below w.heap.size w w' := by
  subst hn
  obtain ⟨kind, dir, train, a, b, body, mac⟩ := p
  simp only at hlen ⊢
  have hnew : ∀ o, Below w.heap.size w (w.alloc o) := fun o => (Below.refl _ _).alloc (Nat.le_refl _) o
  by_cases g : 0 ≤ train ∧ train < 16777216 ∧ 0 ≤ dir ∧ dir ≤ 1
  · obtain ⟨g1, g2, g3, g4⟩ := g
    go_enter Try.func52, Try.ntmps52
    go_wp2
    all_goals
      go_ret
      refine ⟨congrArg (fun b => Ending.returned (Value.bool b)) ?_, hnew _⟩
      simp_all [may, MayP]
      try first
        | exact len_nil _
        | exact len_one _
        | (rw [Bool.eq_iff_iff]; simp; omega)
        | omega
  · have hf : may ⟨kind, dir, train, a, b, body, mac⟩ = false := by
      unfold may
      rw [decide_eq_false_iff_not]
      intro h
      exact g ⟨h.1, h.2.1, h.2.2.1, h.2.2.2.1⟩
    rw [hf]
    go_enter Try.func52, Try.ntmps52
    go_wp2
    all_goals
      go_ret
      refine ⟨congrArg (fun b => Ending.returned (Value.bool b)) ?_, hnew _⟩
      simp_all [may, MayP]
      try first
        | exact len_nil _
        | exact len_one _
        | (rw [Bool.eq_iff_iff]; simp; omega)
        | omega
end Go.Proofs.Ytnngknmmokajgaa
