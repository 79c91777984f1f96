/- Whether a PDU is this connection's. -/
import Derived.Test.YtnngknmmokajgaaShakeFits
import Derived.Test.YtnngknmmokajgaaShakeRefFits
import Derived.Test.YtnngknmmokajgaaPduDoc3
import Derived.Test.YtnngknmmokajgaaShakeDefs
set_option linter.unusedSimpArgs false
set_option linter.unusedVariables false
namespace Go.Proofs.Ytnngknmmokajgaa
open Go.RowKit Go.Shelf

set_option maxHeartbeats 4000000 in
theorem shtaken_k (p : Peer10) (q : P7) (kind : Int) (A : Option Addr) (n c : Nat) (w : World) (hn : q.body.length = n) (hB : Bytes w A c q.body) (hlen : q.body.length ≤ 2000) :
    Calls Try.prog 43 #[.agg (peerC p), .agg #[.int .i64 q.kind, .int .i64 q.dir, .int .i64 q.train, q32 q.a, q32 q.b, .slice A n c, q64 q.mac], .int .i64 kind] w fun e w' => e = .returned (.int .i64 (taken10 p q kind)) ∧ Below w.heap.size w w' := by
  have hf := fun W => shfits_k p q kind A n c W hn hlen
  have hr := fun W (h : Bytes W A c q.body) => pright_k p.key q A n c W hn.symm h hlen
  obtain ⟨er, her⟩ : ∃ er, er = taken10 p q kind := ⟨_, rfl⟩
  rw [← her]
  unfold taken10 at her
  generalize fits10 p q kind = fb at hf her
  generalize right7 p.key q = rb at hr her
  obtain ⟨x1, hx1⟩ : ∃ x1, x1 = (p.state != 2) := ⟨_, rfl⟩
  obtain ⟨x2, hx2⟩ : ∃ x2, x2 = (q.b != p.b) := ⟨_, rfl⟩
  have her2 : er = if fb = false then 1 else if x1 = true then 6 else if x2 = true then 110 else if rb = false then 90 else 0 := by
    rw [her, hx1, hx2]
    simp
  clear her
  unfold peerC at hf ⊢
  cases fb <;> cases x1 <;> cases x2 <;> cases rb <;>
    (simp only [Bool.false_eq_true, Bool.true_eq_false, if_true, if_false, reduceCtorEq] at her2
     subst her2
     replace hx1 := hx1.symm
     replace hx2 := hx2.symm
     go_enter Try.func43, Try.ntmps43
     go_wp2_with (first
       | (go_at_call 32; (with_reducible refine (hf _).mono ?_); rintro e w1 ⟨rfl, hb1⟩; obtain ⟨hc1, _⟩ := bcell hb1; have hz1 : w.heap.size + 1 < w1.heap.size := (by have := hb1.size; simp at this; omega); have hz0 : w.heap.size < w1.heap.size := (by omega); have hbw := below_of_alloc (below_of_alloc hb1))
       | (go_at_call 36; (with_reducible refine (hr _ (hB.below hbw)).mono ?_); rintro e w2 ⟨rfl, hb2⟩))
     go_ret
     first
       | exact ⟨rfl, hbw⟩
       | exact ⟨rfl, below_then hbw hb2⟩)
set_option maxHeartbeats 4000000 in
theorem shcame_k (p : Peer10) (q : P7) (kind : Int) (A : Option Addr) (n c : Nat) (w : World) (hn : q.body.length = n) (hB : Bytes w A c q.body) (hlen : q.body.length ≤ 2000) :
    Calls Try.prog 44 #[.agg (peerC p), .agg #[.int .i64 q.kind, .int .i64 q.dir, .int .i64 q.train, q32 q.a, q32 q.b, .slice A n c, q64 q.mac], .int .i64 kind] w fun e w' => e = .returned (.int .i64 (taken10 p q kind)) ∧ Below w.heap.size w w' := by
  have hf := fun W => rshfits_k p q kind A n c W hn hlen
  have hr := fun W (h : Bytes W A c q.body) => prright_k p.key q A n c W hn.symm h hlen
  obtain ⟨er, her⟩ : ∃ er, er = taken10 p q kind := ⟨_, rfl⟩
  rw [← her]
  unfold taken10 at her
  generalize fits10 p q kind = fb at hf her
  generalize right7 p.key q = rb at hr her
  obtain ⟨x1, hx1⟩ : ∃ x1, x1 = (p.state != 2) := ⟨_, rfl⟩
  obtain ⟨x2, hx2⟩ : ∃ x2, x2 = (q.b != p.b) := ⟨_, rfl⟩
  have her2 : er = if fb = false then 1 else if x1 = true then 6 else if x2 = true then 110 else if rb = false then 90 else 0 := by
    rw [her, hx1, hx2]
    simp
  clear her
  unfold peerC at hf ⊢
  cases fb <;> cases x1 <;> cases x2 <;> cases rb <;>
    (simp only [Bool.false_eq_true, Bool.true_eq_false, if_true, if_false, reduceCtorEq] at her2
     subst her2
     replace hx1 := hx1.symm
     replace hx2 := hx2.symm
     go_enter Try.func44, Try.ntmps44
     go_wp2_with (first
       | (go_at_call 34; (with_reducible refine (hf _).mono ?_); rintro e w1 ⟨rfl, hb1⟩; obtain ⟨hc1, _⟩ := bcell hb1; have hz1 : w.heap.size + 1 < w1.heap.size := (by have := hb1.size; simp at this; omega); have hz0 : w.heap.size < w1.heap.size := (by omega); have hbw := below_of_alloc (below_of_alloc hb1))
       | (go_at_call 38; (with_reducible refine (hr _ (hB.below hbw)).mono ?_); rintro e w2 ⟨rfl, hb2⟩))
     go_ret
     first
       | exact ⟨rfl, hbw⟩
       | exact ⟨rfl, below_then hbw hb2⟩)
end Go.Proofs.Ytnngknmmokajgaa
