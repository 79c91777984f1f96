/- Take: the program's and the document's. -/
import Derived.Test.YtnngknmmokajgaaShakeClone
import Derived.Test.YtnngknmmokajgaaShakeTaken
set_option linter.unusedSimpArgs false
set_option linter.unusedVariables false
namespace Go.Proofs.Ytnngknmmokajgaa
open Go.RowKit Go.Shelf

set_option maxHeartbeats 4000000 in
theorem shtake_k (p : Peer10) (q : P7) (A : Option Addr) (n c : Nat) (w : World) (hn : q.body.length = n) (hB : Bytes w A c q.body) (hlen : q.body.length ≤ 2000) : Calls Try.prog 21 #[.agg (peerC p), .agg #[.int .i64 q.kind, .int .i64 q.dir, .int .i64 q.train, q32 q.a, q32 q.b, .slice A n c, q64 q.mac]] w (fun e w' => ∃ v, e = .returned (.tuple #[v, .int .i64 (taken10 p q 5)]) ∧ IsBytes (takeB p q) v w' ∧ Below w.heap.size w w') := by
  unfold takeB
  by_cases h : taken10 p q 5 = 0
  · rw [if_pos h, h]
    have hz := h
    generalize hT : taken10 p q 5 = tk at *
    subst hz
    have hcon := fun W hW => shtaken_k p q 5 A n c W hn hW hlen
    rw [hT] at hcon
    clear hT
    have hO : Own w _ [_, _] := Own.start2 w 26 30 (peerC p) #[.int .i64 q.kind, .int .i64 q.dir, .int .i64 q.train, q32 q.a, q32 q.b, .slice A n c, q64 q.mac]
    have hcp0 := fun i => (hO.b0.cell i).trans (peer_cell _ i)
    have hcq0 := hO.b1.cell
    go_enter Try.func21, Try.ntmps21
    go_wp2_with (first
      | ((with_reducible refine own_loadg0 hO ?_ _ rfl rfl _ Try.underlying26 rfl (peer_size p) ?_); (· first | rfl | (simp [Region.wanted, yielded]; done)))
      | ((with_reducible refine own_loadg1 hO ?_ _ rfl rfl _ Try.underlying30 rfl (by kernel_rfl) ?_); (· first | rfl | (simp [Region.wanted, yielded]; done)))
      | (go_at_call 43; (with_reducible refine (hcon _ (hB.below hO.below)).mono ?_); rintro e w1 ⟨rfl, hb1⟩; replace hO := hO.grow hb1; have hcp1 := fun i => (hO.b0.cell i).trans (peer_cell _ i); have hcq1 := hO.b1.cell)
      | (go_at_call 41; (with_reducible refine (bclone_k A n c q.body _ hn (hB.below hO.below) (by omega)).mono ?_); rintro e w2 ⟨v2, rfl, hv2, hb2⟩))
    go_ret2
    exact ⟨_, rfl, hv2.is, hO.below.trans (hb2.mono hO.below.size)⟩
  · rw [if_neg h]
    have hcon := fun W hW => shtaken_k p q 5 A n c W hn hW hlen
    generalize taken10 p q 5 = tk at *
    have hb : (tk != 0) = true := by simpa using h
    clear h
    have hO : Own w _ [_, _] := Own.start2 w 26 30 (peerC p) #[.int .i64 q.kind, .int .i64 q.dir, .int .i64 q.train, q32 q.a, q32 q.b, .slice A n c, q64 q.mac]
    have hcp0 := fun i => (hO.b0.cell i).trans (peer_cell _ i)
    have hcq0 := hO.b1.cell
    go_enter Try.func21, Try.ntmps21
    go_wp2_with (first
      | ((with_reducible refine own_loadg0 hO ?_ _ rfl rfl _ Try.underlying26 rfl (peer_size p) ?_); (· first | rfl | (simp [Region.wanted, yielded]; done)))
      | ((with_reducible refine own_loadg1 hO ?_ _ rfl rfl _ Try.underlying30 rfl (by kernel_rfl) ?_); (· first | rfl | (simp [Region.wanted, yielded]; done)))
      | (go_at_call 43; (with_reducible refine (hcon _ (hB.below hO.below)).mono ?_); rintro e w1 ⟨rfl, hb1⟩; replace hO := hO.grow hb1; have hcp1 := fun i => (hO.b0.cell i).trans (peer_cell _ i); have hcq1 := hO.b1.cell)
      | (go_at_call 41; (with_reducible refine (bclone_k A n c q.body _ hn (hB.below hO.below) (by omega)).mono ?_); rintro e w2 ⟨v2, rfl, hv2, hb2⟩))
    go_ret2
    exact ⟨_, rfl, ⟨none, 0, rfl, Bytes.nil _⟩, hO.below⟩
set_option maxHeartbeats 4000000 in
theorem rshtake_k (p : Peer10) (q : P7) (A : Option Addr) (n c : Nat) (w : World) (hn : q.body.length = n) (hB : Bytes w A c q.body) (hlen : q.body.length ≤ 2000) : Calls Try.prog 23 #[.agg (peerC p), .agg #[.int .i64 q.kind, .int .i64 q.dir, .int .i64 q.train, q32 q.a, q32 q.b, .slice A n c, q64 q.mac]] w (fun e w' => ∃ v, e = .returned (.tuple #[v, .int .i64 (taken10 p q 5)]) ∧ IsBytes (takeB p q) v w' ∧ Below w.heap.size w w') := by
  unfold takeB
  by_cases h : taken10 p q 5 = 0
  · rw [if_pos h, h]
    have hz := h
    generalize hT : taken10 p q 5 = tk at *
    subst hz
    have hcon := fun W hW => shcame_k p q 5 A n c W hn hW hlen
    rw [hT] at hcon
    clear hT
    have hO : Own w _ [_, _] := Own.start2 w 26 30 (peerC p) #[.int .i64 q.kind, .int .i64 q.dir, .int .i64 q.train, q32 q.a, q32 q.b, .slice A n c, q64 q.mac]
    have hcp0 := fun i => (hO.b0.cell i).trans (peer_cell _ i)
    have hcq0 := hO.b1.cell
    go_enter Try.func23, Try.ntmps23
    go_wp2_with (first
      | ((with_reducible refine own_loadg0 hO ?_ _ rfl rfl _ Try.underlying26 rfl (peer_size p) ?_); (· first | rfl | (simp [Region.wanted, yielded]; done)))
      | ((with_reducible refine own_loadg1 hO ?_ _ rfl rfl _ Try.underlying30 rfl (by kernel_rfl) ?_); (· first | rfl | (simp [Region.wanted, yielded]; done)))
      | (go_at_call 44; (with_reducible refine (hcon _ (hB.below hO.below)).mono ?_); rintro e w1 ⟨rfl, hb1⟩; replace hO := hO.grow hb1; have hcp1 := fun i => (hO.b0.cell i).trans (peer_cell _ i); have hcq1 := hO.b1.cell))
    go_ret2
    exact ⟨.slice A n c, rfl, ⟨A, c, by rw [hn], hB.below hO.below⟩, hO.below⟩
  · rw [if_neg h]
    have hcon := fun W hW => shcame_k p q 5 A n c W hn hW hlen
    generalize taken10 p q 5 = tk at *
    have hb : (tk != 0) = true := by simpa using h
    clear h
    have hO : Own w _ [_, _] := Own.start2 w 26 30 (peerC p) #[.int .i64 q.kind, .int .i64 q.dir, .int .i64 q.train, q32 q.a, q32 q.b, .slice A n c, q64 q.mac]
    have hcp0 := fun i => (hO.b0.cell i).trans (peer_cell _ i)
    have hcq0 := hO.b1.cell
    go_enter Try.func23, Try.ntmps23
    go_wp2_with (first
      | ((with_reducible refine own_loadg0 hO ?_ _ rfl rfl _ Try.underlying26 rfl (peer_size p) ?_); (· first | rfl | (simp [Region.wanted, yielded]; done)))
      | ((with_reducible refine own_loadg1 hO ?_ _ rfl rfl _ Try.underlying30 rfl (by kernel_rfl) ?_); (· first | rfl | (simp [Region.wanted, yielded]; done)))
      | (go_at_call 44; (with_reducible refine (hcon _ (hB.below hO.below)).mono ?_); rintro e w1 ⟨rfl, hb1⟩; replace hO := hO.grow hb1; have hcp1 := fun i => (hO.b0.cell i).trans (peer_cell _ i); have hcq1 := hO.b1.cell))
    go_ret2
    exact ⟨_, rfl, ⟨none, 0, rfl, Bytes.nil _⟩, hO.below⟩
end Go.Proofs.Ytnngknmmokajgaa
