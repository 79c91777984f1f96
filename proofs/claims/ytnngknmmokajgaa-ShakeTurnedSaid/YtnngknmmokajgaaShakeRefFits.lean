/- Whether an end fits a PDU (of the document). -/
import Derived.Test.YtnngknmmokajgaaShakeSmall
set_option linter.unusedSimpArgs false
set_option linter.unusedVariables false
namespace Go.Proofs.Ytnngknmmokajgaa
open Go.RowKit Go.Shelf

theorem may_dir (q : P7) (h : may q = true) : q.dir = 0 ∨ q.dir = 1 := by
  have hM := may_iff.1 h
  unfold MayP at hM
  omega
set_option maxHeartbeats 4000000 in
theorem rshfits_k (p : Peer10) (q : P7) (kind : Int) (A : Option Addr) (n c : Nat) (w : World) (hn : q.body.length = n) (hlen : q.body.length ≤ 2000) :
    Calls Try.prog 34 #[.agg (peerC p), .agg #[.int .i64 q.kind, .int .i64 q.dir, .int .i64 q.train, q32 q.a, q32 q.b, .slice A n c, q64 q.mac], .int .i64 kind] w fun e w' => e = .returned (.bool (fits10 p q kind)) ∧ Below w.heap.size w w' := by
  have hmay := fun W => rmay_k q A n c W hn.symm (by omega)
  obtain ⟨fb, hfb⟩ : ∃ fb, fb = fits10 p q kind := ⟨_, rfl⟩
  rw [← hfb]
  cases hm : may q with
  | false =>
    have hf : fb = false := by rw [hfb]; simp [fits10, hm]
    subst hf
    rw [hm] at hmay
    clear hfb hm
    unfold peerC
    go_enter Try.func34, Try.ntmps34
    go_wp2_with (go_at_call 52; (with_reducible refine (hmay _).mono ?_); rintro e w1 ⟨rfl, hb⟩; obtain ⟨hc1, _⟩ := bcell hb; have hz1 : w.heap.size + 1 < w1.heap.size := (by have := hb.size; simp at this; omega); have hz0 : w.heap.size < w1.heap.size := (by omega))
    all_goals
      go_ret
      exact ⟨rfl, below_of_alloc (below_of_alloc hb)⟩
  | true =>
    have hd := may_dir q hm
    rw [hm] at hmay
    by_cases hs : p.side = 0
    · have hf : fb = (decide (q.kind = kind) && (decide (q.dir = 1) && decide (q.train = p.train))) := by
        rw [hfb, Bool.eq_iff_iff]
        simp [fits10, hm, dir10, hs]
        omega
      clear hfb hm hd
      have hs1 : (p.side != 0) = false := by simp [hs]
      clear hs
      unfold peerC
      go_enter Try.func34, Try.ntmps34
      go_wp2_with (go_at_call 52; (with_reducible refine (hmay _).mono ?_); rintro e w1 ⟨rfl, hb⟩; obtain ⟨hc1, _⟩ := bcell hb; have hz1 : w.heap.size + 1 < w1.heap.size := (by have := hb.size; simp at this; omega); have hz0 : w.heap.size < w1.heap.size := (by omega))
      all_goals
        go_ret
        refine ⟨congrArg (fun b => Ending.returned (Value.bool b)) ?_, below_of_alloc (below_of_alloc hb)⟩
        rw [hf, Bool.eq_iff_iff]
        simp_all
    · have hf : fb = (decide (q.kind = kind) && (decide (q.dir = 0) && decide (q.train = p.train))) := by
        rw [hfb, Bool.eq_iff_iff]
        simp [fits10, hm, dir10, hs]
        omega
      clear hfb hm hd
      have hs1 : (p.side != 0) = true := by simp [hs]
      clear hs
      unfold peerC
      go_enter Try.func34, Try.ntmps34
      go_wp2_with (go_at_call 52; (with_reducible refine (hmay _).mono ?_); rintro e w1 ⟨rfl, hb⟩; obtain ⟨hc1, _⟩ := bcell hb; have hz1 : w.heap.size + 1 < w1.heap.size := (by have := hb.size; simp at this; omega); have hz0 : w.heap.size < w1.heap.size := (by omega))
      all_goals
        go_ret
        refine ⟨congrArg (fun b => Ending.returned (Value.bool b)) ?_, below_of_alloc (below_of_alloc hb)⟩
        rw [hf, Bool.eq_iff_iff]
        simp_all
end Go.Proofs.Ytnngknmmokajgaa
