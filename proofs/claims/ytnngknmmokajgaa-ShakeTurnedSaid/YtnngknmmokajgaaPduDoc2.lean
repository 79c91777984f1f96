/- The document's functions: the bytes, and whether two PDUs are the same. -/
import Derived.Test.YtnngknmmokajgaaPduDoc
set_option linter.unusedSimpArgs false
set_option linter.unusedVariables false
namespace Go.Proofs.Ytnngknmmokajgaa
open Go.RowKit Go.Shelf

theorem textB_pos (p : P7) : 4 ≤ (textB p).length := by
  unfold textB
  simp only [List.length_append, be_length]
  omega
theorem strOf_eq (a b : List UInt8) : (strOf a).toList = (strOf b).toList ↔ a = b := by
  rw [strOf_toList, strOf_toList]
set_option maxHeartbeats 4000000 in
theorem same_k (p q : P7) (A1 : Option Addr) (n1 c1 : Nat) (A2 : Option Addr) (n2 c2 : Nat) (w : World) (h1 : n1 = p.body.length) (h2 : n2 = q.body.length) (hB1 : Bytes w A1 c1 p.body) (hB2 : Bytes w A2 c2 q.body) :
    Calls Try.prog 12 #[.agg #[.int .i64 p.kind, .int .i64 p.dir, .int .i64 p.train, q32 p.a, q32 p.b, .slice A1 n1 c1, q64 p.mac], .agg #[.int .i64 q.kind, .int .i64 q.dir, .int .i64 q.train, q32 q.a, q32 q.b, .slice A2 n2 c2, q64 q.mac]] w fun e w' => e = .returned (.bool (decide (p = q))) ∧ Below w.heap.size w w' := by
  subst h1 h2
  obtain ⟨k1, d1, t1, a1, b1, l1, m1⟩ := p
  obtain ⟨k2, d2, t2, a2, b2, l2, m2⟩ := q
  simp only at hB1 hB2 ⊢
  have c1' := fun o1 o2 => run_bytes_string ((hB1.alloc o1).alloc o2)
  have c2' := fun o1 o2 => run_bytes_string ((hB2.alloc o1).alloc o2)
  have hse := strOf_eq l1 l2
  generalize strOf l1 = s1 at *
  generalize strOf l2 = s2 at *
  go_enter Try.func12, Try.ntmps12
  go_wp2_with fail
  all_goals
    go_ret
    refine ⟨congrArg (fun b => Ending.returned (Value.bool b)) ?_, ((Below.refl _ _).alloc (Nat.le_refl _) _).alloc (by simp) _⟩
    rw [Bool.eq_iff_iff]
    simp only [decide_eq_true_eq, P7.mk.injEq]
    rw [← hse]
    simp_all
end Go.Proofs.Ytnngknmmokajgaa
