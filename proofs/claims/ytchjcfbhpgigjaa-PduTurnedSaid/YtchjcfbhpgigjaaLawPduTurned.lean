/- PduTurned: what is sealed is right; with one byte turned it is none, or not right, under that key. -/
import Derived.Test.YtchjcfbhpgigjaaLawPduBack
set_option linter.unusedSimpArgs false
set_option linter.unusedVariables false
namespace Go.Proofs.Ytchjcfbhpgigjaa
open Go.ChangeShapes Go.WideShapes Go.ChangeAt Go.RowKit
open Go.ChangeMaps (open_string shut_string)

theorem body_le' (q : P7) (h : may q = true) : q.body.length ≤ (enc q).length := by
  unfold enc
  rw [if_pos h]
  unfold textB
  simp only [List.length_append]
  omega
theorem Bytes.set_at {w : World} {g c : Nat} {bs : List UInt8} (h : Bytes w (some ⟨g, 0, none⟩) c bs) (i : Nat) (x : UInt8) (hi : i < bs.length) : Bytes (w.setCell ⟨g, i, none⟩ (q8 x)) (some ⟨g, 0, none⟩) c (bs.set i x) := by
  refine ⟨fun h0 => ?_, by rw [List.length_set]; exact h.cap, h.max⟩
  rw [cellsOf_length, List.length_set] at h0
  obtain ⟨b', off', e, hlt, hc⟩ := h.row (by rw [cellsOf_length]; exact h0)
  simp only [Option.some.injEq, Addr.mk.injEq, and_true] at e
  obtain ⟨rfl, rfl⟩ := e
  refine ⟨g, 0, rfl, by simpa [World.setCell] using hlt, fun j u hu => ?_⟩
  have hci := hc i (q8 (nth bs i)) (cellsOf_at bs i hi)
  rw [Nat.zero_add] at hci ⊢
  simp only [cellsOf, List.getElem?_map] at hu
  by_cases hj : i = j
  · subst hj
    rw [List.getElem?_set_self hi] at hu
    simp only [Option.map_some, Option.some.injEq] at hu
    rw [← hu]
    exact World.cell?_setCell_same' w _ _ (by rw [hci]; rfl)
  · rw [List.getElem?_set_ne hj] at hu
    have := hc j u (by simpa [cellsOf, List.getElem?_map] using hu)
    rw [Nat.zero_add] at this
    rw [← this]
    exact World.cell?_setCell_other w _ _ _ (by intro e; injection e with _ e2; exact hj e2)
theorem seal_right (k : K4) (p : P7) (hm : may (seal7 k p) = true) (hk : (seal7 k p).kind ≠ 1) : right7 k (seal7 k p) = true := by
  by_cases h : may p = true ∧ p.kind ≠ 1
  · have hs : seal7 k p = ⟨p.kind, p.dir, p.train, p.a, p.b, p.body, Mac k (text p)⟩ := by unfold seal7; rw [if_pos h]
    rw [right_yes k _ hm hk]
    have ht : text (seal7 k p) = text p := by
      unfold text
      rw [if_pos hm, if_pos h.1, hs]
      rfl
    rw [ht, hs]
    simp
  · have hs : seal7 k p = p := by unfold seal7; rw [if_neg h]
    rw [hs] at hm hk
    exact absurd ⟨hm, hk⟩ h
theorem seal_body (k : K4) (p : P7) : (seal7 k p).body = p.body := by
  unfold seal7
  split <;> rfl
set_option maxHeartbeats 4000000 in
theorem turned_early (k : K4) (s p : P7) (hs : s = seal7 k p) (A : Option Addr) (c : Nat) (at_ : Int) (by_ : UInt8) (w : World) (hB : Bytes w A c p.body) (hlen : p.body.length ≤ 2000) (he : may s = false ∨ s.kind = 1) :
    Calls Try.prog 8 #[.agg #[q32 k.k0, q32 k.k1, q32 k.k2, q32 k.k3], .agg #[.int .i64 p.kind, .int .i64 p.dir, .int .i64 p.train, q32 p.a, q32 p.b, .slice A p.body.length c, q64 p.mac], .int .i64 at_, q8 by_] w fun e w' => e = .returned (.bool true) ∧ Below w.heap.size w w' := by
  have hsb : s.body.length ≤ 2000 := by rw [hs, seal_body]; exact hlen
  have hps : ∀ W, Bytes W A c p.body → Calls Try.prog 19 #[.agg #[q32 k.k0, q32 k.k1, q32 k.k2, q32 k.k3], .agg #[.int .i64 p.kind, .int .i64 p.dir, .int .i64 p.train, q32 p.a, q32 p.b, .slice A p.body.length c, q64 p.mac]] W fun e w' => ∃ A' c', e = .returned (.agg #[.int .i64 s.kind, .int .i64 s.dir, .int .i64 s.train, q32 s.a, q32 s.b, .slice A' s.body.length c', q64 s.mac]) ∧ Bytes w' A' c' s.body ∧ Below W.heap.size W w' := by
    intro W h
    refine (pseal_k k p.kind p.dir p.train p.a p.b p.body p.mac A _ c W rfl h hlen).mono ?_
    rintro e w' ⟨v, rfl, hp, hb⟩
    rw [← hs] at hp
    obtain ⟨bv, rfl, A', c', rfl, hB', _⟩ := hp
    exact ⟨A', c', rfl, hB', hb⟩
  have hr0 : right7 k s = false := by
    rcases he with h | h
    · exact right_no k s h
    · exact right_one k s h
  have hpr : ∀ W A' c', Bytes W A' c' s.body → Calls Try.prog 21 #[.agg #[q32 k.k0, q32 k.k1, q32 k.k2, q32 k.k3], .agg #[.int .i64 s.kind, .int .i64 s.dir, .int .i64 s.train, q32 s.a, q32 s.b, .slice A' s.body.length c', q64 s.mac]] W fun e w' => e = .returned (.bool false) ∧ Below W.heap.size W w' := fun W A' c' h => by
    have := pright_k k s A' _ c' W rfl h hsb
    rwa [hr0] at this
  have hpe : ∀ W A' c', Bytes W A' c' s.body → Calls Try.prog 10 #[.agg #[.int .i64 s.kind, .int .i64 s.dir, .int .i64 s.train, q32 s.a, q32 s.b, .slice A' s.body.length c', q64 s.mac]] W fun e w' => ∃ v, e = .returned (.tuple #[v, .int .i64 (if may s then 0 else 1)]) ∧ Below W.heap.size W w' := fun W A' c' h => by
    refine (penc_k s A' _ c' W rfl h hsb).mono ?_
    rintro e w' ⟨v, rfl, _, hb⟩
    exact ⟨v, rfl, hb⟩
  have hl := hB.len_le
  clear hr0 hs
  cases hm : may s with
  | false =>
    simp only [hm, Bool.false_eq_true, if_false] at hpe
    clear he hm
    go_enter Try.func8, Try.ntmps8
    go_wp2_with (first
      | (go_at_call 9; (with_reducible refine (awake9_any _).mono ?_); rintro e w1 ⟨rfl, hb1⟩; obtain ⟨hcR1, _⟩ := bcell hb1; have hz1 : w.heap.size + 1 < w1.heap.size := (by have := hb1.size; simp at this; omega); have hz0 : w.heap.size < w1.heap.size := (by omega); have hbw := below_of_alloc (below_of_alloc hb1))
      | (go_at_call 19; (with_reducible refine (hps _ (hB.below hbw)).mono ?_); rintro e w2 ⟨A2, c2, rfl, hB2, hb2⟩; obtain ⟨hcR2, _⟩ := bcell hb2; have hz2 : w.heap.size + 1 < w2.heap.size := (by have := hb2.size; omega); have hz20 : w.heap.size < w2.heap.size := (by omega))
      | (go_at_call 10; (with_reducible refine (hpe _ _ _ (hB2.alloc _)).mono ?_); rintro e w3 ⟨v3, rfl, hb3⟩; obtain ⟨hcR3, _⟩ := bcell hb3; have hz3 : w.heap.size + 1 < w3.heap.size := (by have := hb3.size; simp at this; omega); have hz30 : w.heap.size < w3.heap.size := (by omega); have hz32 : w2.heap.size < w3.heap.size := (by have := hb3.size; simp at this; omega))
      | (go_at_call 21; (with_reducible refine (hpr _ _ _ ((hB2.alloc _).below hb3)).mono ?_); rintro e w4 ⟨rfl, hb4⟩))
    all_goals
      go_ret
      exact ⟨rfl, below_then hbw (below_then hb2 (below_then (below_of_alloc hb3) hb4))⟩
  | true =>
    have hk : (s.kind == 1) = true := by
      rcases he with h | h
      · rw [hm] at h; cases h
      · simp [h]
    simp only [hm, if_true] at hpe
    clear he hm
    go_enter Try.func8, Try.ntmps8
    go_wp2_with (first
      | (go_at_call 9; (with_reducible refine (awake9_any _).mono ?_); rintro e w1 ⟨rfl, hb1⟩; obtain ⟨hcR1, _⟩ := bcell hb1; have hz1 : w.heap.size + 1 < w1.heap.size := (by have := hb1.size; simp at this; omega); have hz0 : w.heap.size < w1.heap.size := (by omega); have hbw := below_of_alloc (below_of_alloc hb1))
      | (go_at_call 19; (with_reducible refine (hps _ (hB.below hbw)).mono ?_); rintro e w2 ⟨A2, c2, rfl, hB2, hb2⟩; obtain ⟨hcR2, _⟩ := bcell hb2; have hz2 : w.heap.size + 1 < w2.heap.size := (by have := hb2.size; omega); have hz20 : w.heap.size < w2.heap.size := (by omega))
      | (go_at_call 10; (with_reducible refine (hpe _ _ _ (hB2.alloc _)).mono ?_); rintro e w3 ⟨v3, rfl, hb3⟩; obtain ⟨hcR3, _⟩ := bcell hb3; have hz3 : w.heap.size + 1 < w3.heap.size := (by have := hb3.size; simp at this; omega); have hz30 : w.heap.size < w3.heap.size := (by omega); have hz32 : w2.heap.size < w3.heap.size := (by have := hb3.size; simp at this; omega))
      | (go_at_call 21; (with_reducible refine (hpr _ _ _ ((hB2.alloc _).below hb3)).mono ?_); rintro e w4 ⟨rfl, hb4⟩))
    all_goals
      go_ret
      exact ⟨rfl, below_then hbw (below_then hb2 (below_then (below_of_alloc hb3) hb4))⟩
theorem late_set (k : K4) (s q : P7) (en : List UInt8) (hen : enc s = en) (hr : right7 k s = true) (i : Nat) (by_ : UInt8) (hi : i < en.length) (hby : by_ ≠ 0) (hq : enc q = en.set i (nth en i ^^^ by_)) : right7 k q = false := by
  cases h : right7 k q with
  | false => rfl
  | true =>
    subst hen
    refine absurd hq (turned k s q hr h i _ hi ?_)
    intro e
    apply hby
    have h2 : nth (enc s) i ^^^ (nth (enc s) i ^^^ by_) = nth (enc s) i ^^^ nth (enc s) i := by rw [e]
    rw [← UInt8.xor_assoc, UInt8.xor_self, UInt8.zero_xor] at h2
    exact h2
set_option maxHeartbeats 8000000 in
theorem turned_late (k : K4) (s p : P7) (hs : s = seal7 k p) (A : Option Addr) (c : Nat) (at_ : Int) (by_ : UInt8) (w : World) (hB : Bytes w A c p.body) (hlen : p.body.length ≤ 2000) (hm : may s = true) (hk : s.kind ≠ 1) :
    Calls Try.prog 8 #[.agg #[q32 k.k0, q32 k.k1, q32 k.k2, q32 k.k3], .agg #[.int .i64 p.kind, .int .i64 p.dir, .int .i64 p.train, q32 p.a, q32 p.b, .slice A p.body.length c, q64 p.mac], .int .i64 at_, q8 by_] w fun e w' => e = .returned (.bool true) ∧ Below w.heap.size w w' := by
  have hsb : s.body.length ≤ 2000 := by rw [hs, seal_body]; exact hlen
  have hps : ∀ W, Bytes W A c p.body → Calls Try.prog 19 #[.agg #[q32 k.k0, q32 k.k1, q32 k.k2, q32 k.k3], .agg #[.int .i64 p.kind, .int .i64 p.dir, .int .i64 p.train, q32 p.a, q32 p.b, .slice A p.body.length c, q64 p.mac]] W fun e w' => ∃ A' c', e = .returned (.agg #[.int .i64 s.kind, .int .i64 s.dir, .int .i64 s.train, q32 s.a, q32 s.b, .slice A' s.body.length c', q64 s.mac]) ∧ Bytes w' A' c' s.body ∧ Below W.heap.size W w' := by
    intro W h
    refine (pseal_k k p.kind p.dir p.train p.a p.b p.body p.mac A _ c W rfl h hlen).mono ?_
    rintro e w' ⟨v, rfl, hp, hb⟩
    rw [← hs] at hp
    obtain ⟨bv, rfl, A', c', rfl, hB', _⟩ := hp
    exact ⟨A', c', rfl, hB', hb⟩
  have hr1 : right7 k s = true := by rw [hs] at hm hk ⊢; exact seal_right k p hm hk
  have hpr : ∀ W A' c', Bytes W A' c' s.body → Calls Try.prog 21 #[.agg #[q32 k.k0, q32 k.k1, q32 k.k2, q32 k.k3], .agg #[.int .i64 s.kind, .int .i64 s.dir, .int .i64 s.train, q32 s.a, q32 s.b, .slice A' s.body.length c', q64 s.mac]] W fun e w' => e = .returned (.bool true) ∧ Below W.heap.size W w' := fun W A' c' h => by
    have := pright_k k s A' _ c' W rfl h hsb
    rwa [hr1] at this
  obtain ⟨en, hen⟩ : ∃ en, enc s = en := ⟨_, rfl⟩
  have henl : en.length ≤ 2000 := by rw [← hen]; exact enc_le s hm
  have henp : 0 < en.length := by
    have := textB_pos s
    rw [← hen]
    unfold enc
    rw [if_pos hm, List.length_append]
    omega
  have hpe : ∀ W A' c', Bytes W A' c' s.body → Calls Try.prog 10 #[.agg #[.int .i64 s.kind, .int .i64 s.dir, .int .i64 s.train, q32 s.a, q32 s.b, .slice A' s.body.length c', q64 s.mac]] W fun e w' => ∃ g c3, e = .returned (.tuple #[.slice (some ⟨g, 0, none⟩) en.length c3, .int .i64 0]) ∧ Bytes w' (some ⟨g, 0, none⟩) c3 en ∧ W.heap.size ≤ g ∧ (∀ i, i < en.length → w'.frozen? ⟨g, i, none⟩ = false) ∧ Below W.heap.size W w' := fun W A' c' h => by
    refine (penc_k s A' _ c' W rfl h hsb).mono ?_
    rintro e w' ⟨v, rfl, ⟨A3, c3, rfl, hB3, hf⟩, hb⟩
    rw [hen] at hB3 hf
    obtain ⟨g, rfl, h1, h2, h3⟩ := hf henp
    refine ⟨g, c3, ?_, hB3, h1, h3, hb⟩
    rw [hm, hen]
    rfl
  have hk1 : (s.kind == 1) = false := by simpa using hk
  have hl := hB.len_le
  have hby : ∀ t, binOp .eql t (q8 by_) (.int .u8 0) = pure (.bool (by_ == 0)) := fun t => q8_eql t by_ 0
  have hset := fun q => late_set k s q en hen hr1
  clear hs hm hk hen hr1
  by_cases h1 : at_ < 0
  · go_enter Try.func8, Try.ntmps8
    go_wp2_with (first
      | (go_at_call 9; (with_reducible refine (awake9_any _).mono ?_); rintro e w1 ⟨rfl, hb1⟩; obtain ⟨hcR1, _⟩ := bcell hb1; have hz1 : w.heap.size + 1 < w1.heap.size := (by have := hb1.size; simp at this; omega); have hz0 : w.heap.size < w1.heap.size := (by omega); have hbw := below_of_alloc (below_of_alloc hb1); have hK1 : Blk w1 w.heap.size 38 #[q32 k.k0, q32 k.k1, q32 k.k2, q32 k.k3] := Blk.below ((Blk.new w 38 #[q32 k.k0, q32 k.k1, q32 k.k2, q32 k.k3]).alloc _) hb1 (by simp; omega))
      | (go_at_call 19; (with_reducible refine (hps _ (hB.below hbw)).mono ?_); rintro e w2 ⟨A2, c2, rfl, hB2, hb2⟩; have hK2 := hK1.below hb2 hK1.lt)
      | (go_at_call 10; (with_reducible refine (hpe _ _ _ (hB2.alloc _)).mono ?_); rintro e w3 ⟨g, c3, rfl, hB3, hg3, hf3, hb3⟩; go_loud (have hK3 := Blk.below (hK2.alloc _) hb3 (Nat.lt_of_lt_of_le hK2.lt (by simp)); have hS3 : Blk w3 w2.heap.size 26 #[.int .i64 s.kind, .int .i64 s.dir, .int .i64 s.train, q32 s.a, q32 s.b, .slice A2 s.body.length c2, q64 s.mac] := Blk.below (Blk.new w2 26 #[.int .i64 s.kind, .int .i64 s.dir, .int .i64 s.train, q32 s.a, q32 s.b, .slice A2 s.body.length c2, q64 s.mac]) hb3 (by simp); have hcK3 := hK3.cell; have hcS3 := hS3.cell))
      | (go_at_call 21; (with_reducible refine (hpr _ _ _ ((hB2.alloc _).below hb3)).mono ?_); rintro e w4 ⟨rfl, hb4⟩))
    go_ret
    exact ⟨rfl, below_then hbw (below_then hb2 (below_then (below_of_alloc hb3) hb4))⟩
  by_cases h2 : (en.length : Int) ≤ at_
  · go_enter Try.func8, Try.ntmps8
    go_wp2_with (first
      | (go_at_call 9; (with_reducible refine (awake9_any _).mono ?_); rintro e w1 ⟨rfl, hb1⟩; obtain ⟨hcR1, _⟩ := bcell hb1; have hz1 : w.heap.size + 1 < w1.heap.size := (by have := hb1.size; simp at this; omega); have hz0 : w.heap.size < w1.heap.size := (by omega); have hbw := below_of_alloc (below_of_alloc hb1); have hK1 : Blk w1 w.heap.size 38 #[q32 k.k0, q32 k.k1, q32 k.k2, q32 k.k3] := Blk.below ((Blk.new w 38 #[q32 k.k0, q32 k.k1, q32 k.k2, q32 k.k3]).alloc _) hb1 (by simp; omega))
      | (go_at_call 19; (with_reducible refine (hps _ (hB.below hbw)).mono ?_); rintro e w2 ⟨A2, c2, rfl, hB2, hb2⟩; have hK2 := hK1.below hb2 hK1.lt)
      | (go_at_call 10; (with_reducible refine (hpe _ _ _ (hB2.alloc _)).mono ?_); rintro e w3 ⟨g, c3, rfl, hB3, hg3, hf3, hb3⟩; go_loud (have hK3 := Blk.below (hK2.alloc _) hb3 (Nat.lt_of_lt_of_le hK2.lt (by simp)); have hS3 : Blk w3 w2.heap.size 26 #[.int .i64 s.kind, .int .i64 s.dir, .int .i64 s.train, q32 s.a, q32 s.b, .slice A2 s.body.length c2, q64 s.mac] := Blk.below (Blk.new w2 26 #[.int .i64 s.kind, .int .i64 s.dir, .int .i64 s.train, q32 s.a, q32 s.b, .slice A2 s.body.length c2, q64 s.mac]) hb3 (by simp); have hcK3 := hK3.cell; have hcS3 := hS3.cell))
      | (go_at_call 21; (with_reducible refine (hpr _ _ _ ((hB2.alloc _).below hb3)).mono ?_); rintro e w4 ⟨rfl, hb4⟩))
    go_ret
    exact ⟨rfl, below_then hbw (below_then hb2 (below_then (below_of_alloc hb3) hb4))⟩
  obtain ⟨i, rfl⟩ : ∃ i : Nat, at_ = i := ⟨at_.toNat, by omega⟩
  have hi : i < en.length := by omega
  by_cases h3 : by_ = 0
  · have hb0 : (by_ == 0) = true := by simp [h3]
    clear h3
    go_enter Try.func8, Try.ntmps8
    go_wp2_with (first
      | (go_at_call 9; (with_reducible refine (awake9_any _).mono ?_); rintro e w1 ⟨rfl, hb1⟩; obtain ⟨hcR1, _⟩ := bcell hb1; have hz1 : w.heap.size + 1 < w1.heap.size := (by have := hb1.size; simp at this; omega); have hz0 : w.heap.size < w1.heap.size := (by omega); have hbw := below_of_alloc (below_of_alloc hb1); have hK1 : Blk w1 w.heap.size 38 #[q32 k.k0, q32 k.k1, q32 k.k2, q32 k.k3] := Blk.below ((Blk.new w 38 #[q32 k.k0, q32 k.k1, q32 k.k2, q32 k.k3]).alloc _) hb1 (by simp; omega))
      | (go_at_call 19; (with_reducible refine (hps _ (hB.below hbw)).mono ?_); rintro e w2 ⟨A2, c2, rfl, hB2, hb2⟩; have hK2 := hK1.below hb2 hK1.lt)
      | (go_at_call 10; (with_reducible refine (hpe _ _ _ (hB2.alloc _)).mono ?_); rintro e w3 ⟨g, c3, rfl, hB3, hg3, hf3, hb3⟩; go_loud (have hK3 := Blk.below (hK2.alloc _) hb3 (Nat.lt_of_lt_of_le hK2.lt (by simp)); have hS3 : Blk w3 w2.heap.size 26 #[.int .i64 s.kind, .int .i64 s.dir, .int .i64 s.train, q32 s.a, q32 s.b, .slice A2 s.body.length c2, q64 s.mac] := Blk.below (Blk.new w2 26 #[.int .i64 s.kind, .int .i64 s.dir, .int .i64 s.train, q32 s.a, q32 s.b, .slice A2 s.body.length c2, q64 s.mac]) hb3 (by simp); have hcK3 := hK3.cell; have hcS3 := hS3.cell))
      | (go_at_call 21; (with_reducible refine (hpr _ _ _ ((hB2.alloc _).below hb3)).mono ?_); rintro e w4 ⟨rfl, hb4⟩))
    go_ret
    exact ⟨rfl, below_then hbw (below_then hb2 (below_then (below_of_alloc hb3) hb4))⟩
  have hb0 : (by_ == 0) = false := by simpa using h3
  have hset' := fun q h => hset q i by_ hi h3 h
  clear h3 hset
  obtain ⟨x, hx⟩ : ∃ x, x = nth en i := ⟨_, rfl⟩
  rw [← hx] at hset'
  obtain ⟨en', hen'⟩ : ∃ en', en' = en.set i (x ^^^ by_) := ⟨_, rfl⟩
  rw [← hen'] at hset'
  have hel : en'.length = en.length := by rw [hen', List.length_set]
  replace hen' := Lib.hid hen'
  replace hx := Lib.hid hx
  cases hd : decI en' with
  | none =>
    have hde : ∀ W A' c', Bytes W A' c' en' → Calls Try.prog 16 #[.slice A' en.length c'] W fun e w' => ∃ A' c', e = .returned (.tuple #[.agg #[.int .i64 0, .int .i64 0, .int .i64 0, .int .u32 0, .int .u32 0, .slice A' 0 c', .int .u64 0], .int .i64 8]) ∧ Below W.heap.size W w' := by
      intro W A' c' h
      refine (pdec_k A' _ c' en' W hel.symm h (by omega)).mono ?_
      rw [hd]
      rintro e w' ⟨v, rfl, ⟨bv, rfl, A', c', rfl, _⟩, hb⟩
      exact ⟨A', c', rfl, hb⟩
    clear hd hset' hel
    go_enter Try.func8, Try.ntmps8
    go_wp2_with (first
      | (go_at_call 9; (with_reducible refine (awake9_any _).mono ?_); rintro e w1 ⟨rfl, hb1⟩; obtain ⟨hcR1, _⟩ := bcell hb1; have hz1 : w.heap.size + 1 < w1.heap.size := (by have := hb1.size; simp at this; omega); have hz0 : w.heap.size < w1.heap.size := (by omega); have hbw := below_of_alloc (below_of_alloc hb1); have hK1 : Blk w1 w.heap.size 38 #[q32 k.k0, q32 k.k1, q32 k.k2, q32 k.k3] := Blk.below ((Blk.new w 38 #[q32 k.k0, q32 k.k1, q32 k.k2, q32 k.k3]).alloc _) hb1 (by simp; omega))
      | (go_at_call 19; (with_reducible refine (hps _ (hB.below hbw)).mono ?_); rintro e w2 ⟨A2, c2, rfl, hB2, hb2⟩; have hK2 := hK1.below hb2 hK1.lt)
      | (go_at_call 10; (with_reducible refine (hpe _ _ _ (hB2.alloc _)).mono ?_); rintro e w3 ⟨g, c3, rfl, hB3, hg3, hf3, hb3⟩; go_loud (have hK3 := Blk.below (hK2.alloc _) hb3 (Nat.lt_of_lt_of_le hK2.lt (by simp)); have hS3 : Blk w3 w2.heap.size 26 #[.int .i64 s.kind, .int .i64 s.dir, .int .i64 s.train, q32 s.a, q32 s.b, .slice A2 s.body.length c2, q64 s.mac] := Blk.below (Blk.new w2 26 #[.int .i64 s.kind, .int .i64 s.dir, .int .i64 s.train, q32 s.a, q32 s.b, .slice A2 s.body.length c2, q64 s.mac]) hb3 (by simp); have hcK3 := hK3.cell; have hcS3 := hS3.cell))
      | (go_at_call 21; (with_reducible refine (hpr _ _ _ ((hB2.alloc _).below hb3)).mono ?_); rintro e w4 ⟨rfl, hb4⟩; go_loud (have hg3' : g < w3.heap.size := (by obtain ⟨b', off', e', hlt, _⟩ := hB3.at_ hi; simp only [Option.some.injEq, Addr.mk.injEq, and_true] at e'; obtain ⟨rfl, rfl⟩ := e'; exact hlt); have hfr4 : w4.frozen? ⟨g, i, none⟩ = false := (hb4.frozen (p := ⟨g, i, none⟩) hg3').trans (hf3 i hi); have hB4 := hB3.below hb4; have hce4 : w4.cell? ⟨g, i, none⟩ = some (q8 x) := (by have h0 := Bytes.at_ hB4 hi; rw [← hx.out] at h0; obtain ⟨b', off', e', _, hcc⟩ := h0; simp only [Option.some.injEq, Addr.mk.injEq, and_true] at e'; obtain ⟨rfl, rfl⟩ := e'; rwa [Nat.zero_add] at hcc); have hB5 := Bytes.set_at hB4 i (x ^^^ by_) hi; rw [← hen'.out] at hB5; have hK4 := (hK3.below hb4 hK3.lt).far (p := ⟨g, i, none⟩) (by have := hK2.lt; simp at hg3; show _ ≠ g; omega) (q8 (x ^^^ by_)); have hgw : w.heap.size < g := (by have := hK2.lt; simp at hg3; omega)))
      | (go_at_call 16; (with_reducible refine (hde _ _ _ hB5).mono ?_); rintro e w5 ⟨A5, c5, rfl, hb5⟩))
    go_ret
    have hbx := (below_then hbw (below_then hb2 (below_then (below_of_alloc hb3) hb4))).setCell (p := ⟨g, i, none⟩) (by show _ ≤ g; omega) (q8 (x ^^^ by_))
    exact ⟨rfl, hbx.trans ((hb5.mono hbx.size).alloc (Nat.le_trans hbx.size hb5.size) _)⟩
  | some q =>
    obtain ⟨hmq, heq⟩ := (decI_spec en' q).1 hd
    have hrq := hset' q heq
    have hqb : q.body.length ≤ 2000 := by
      have := body_le' q hmq
      rw [heq] at this
      omega
    have hde : ∀ W A' c', Bytes W A' c' en' → Calls Try.prog 16 #[.slice A' en.length c'] W fun e w' => ∃ A' c', e = .returned (.tuple #[.agg #[.int .i64 q.kind, .int .i64 q.dir, .int .i64 q.train, q32 q.a, q32 q.b, .slice A' q.body.length c', q64 q.mac], .int .i64 0]) ∧ Bytes w' A' c' q.body ∧ Below W.heap.size W w' := by
      intro W A' c' h
      refine (pdec_k A' _ c' en' W hel.symm h (by omega)).mono ?_
      rw [hd]
      rintro e w' ⟨v, rfl, ⟨bv, rfl, A', c', rfl, hB', _⟩, hb⟩
      exact ⟨A', c', rfl, hB', hb⟩
    have hpq : ∀ W A' c', Bytes W A' c' q.body → Calls Try.prog 21 #[.agg #[q32 k.k0, q32 k.k1, q32 k.k2, q32 k.k3], .agg #[.int .i64 q.kind, .int .i64 q.dir, .int .i64 q.train, q32 q.a, q32 q.b, .slice A' q.body.length c', q64 q.mac]] W fun e w' => e = .returned (.bool false) ∧ Below W.heap.size W w' := fun W A' c' h => by
      have := pright_k k q A' _ c' W rfl h hqb
      rwa [hrq] at this
    clear hd hset' hel hmq heq hrq
    go_enter Try.func8, Try.ntmps8
    go_wp2_with (first
      | (go_at_call 9; (with_reducible refine (awake9_any _).mono ?_); rintro e w1 ⟨rfl, hb1⟩; obtain ⟨hcR1, _⟩ := bcell hb1; have hz1 : w.heap.size + 1 < w1.heap.size := (by have := hb1.size; simp at this; omega); have hz0 : w.heap.size < w1.heap.size := (by omega); have hbw := below_of_alloc (below_of_alloc hb1); have hK1 : Blk w1 w.heap.size 38 #[q32 k.k0, q32 k.k1, q32 k.k2, q32 k.k3] := Blk.below ((Blk.new w 38 #[q32 k.k0, q32 k.k1, q32 k.k2, q32 k.k3]).alloc _) hb1 (by simp; omega))
      | (go_at_call 19; (with_reducible refine (hps _ (hB.below hbw)).mono ?_); rintro e w2 ⟨A2, c2, rfl, hB2, hb2⟩; have hK2 := hK1.below hb2 hK1.lt)
      | (go_at_call 10; (with_reducible refine (hpe _ _ _ (hB2.alloc _)).mono ?_); rintro e w3 ⟨g, c3, rfl, hB3, hg3, hf3, hb3⟩; go_loud (have hK3 := Blk.below (hK2.alloc _) hb3 (Nat.lt_of_lt_of_le hK2.lt (by simp)); have hS3 : Blk w3 w2.heap.size 26 #[.int .i64 s.kind, .int .i64 s.dir, .int .i64 s.train, q32 s.a, q32 s.b, .slice A2 s.body.length c2, q64 s.mac] := Blk.below (Blk.new w2 26 #[.int .i64 s.kind, .int .i64 s.dir, .int .i64 s.train, q32 s.a, q32 s.b, .slice A2 s.body.length c2, q64 s.mac]) hb3 (by simp); have hcK3 := hK3.cell; have hcS3 := hS3.cell))
      | (go_at_call 21; (with_reducible refine (hpr _ _ _ ((hB2.alloc _).below hb3)).mono ?_); rintro e w4 ⟨rfl, hb4⟩; go_loud (have hg3' : g < w3.heap.size := (by obtain ⟨b', off', e', hlt, _⟩ := hB3.at_ hi; simp only [Option.some.injEq, Addr.mk.injEq, and_true] at e'; obtain ⟨rfl, rfl⟩ := e'; exact hlt); have hfr4 : w4.frozen? ⟨g, i, none⟩ = false := (hb4.frozen (p := ⟨g, i, none⟩) hg3').trans (hf3 i hi); have hB4 := hB3.below hb4; have hce4 : w4.cell? ⟨g, i, none⟩ = some (q8 x) := (by have h0 := Bytes.at_ hB4 hi; rw [← hx.out] at h0; obtain ⟨b', off', e', _, hcc⟩ := h0; simp only [Option.some.injEq, Addr.mk.injEq, and_true] at e'; obtain ⟨rfl, rfl⟩ := e'; rwa [Nat.zero_add] at hcc); have hB5 := Bytes.set_at hB4 i (x ^^^ by_) hi; rw [← hen'.out] at hB5; have hK4 := (hK3.below hb4 hK3.lt).far (p := ⟨g, i, none⟩) (by have := hK2.lt; simp at hg3; show _ ≠ g; omega) (q8 (x ^^^ by_)); have hgw : w.heap.size < g := (by have := hK2.lt; simp at hg3; omega)))
      | (go_at_call 16; (with_reducible refine (hde _ _ _ hB5).mono ?_); rintro e w5 ⟨A5, c5, rfl, hBq, hb5⟩; have hK5 := Blk.below hK4 hb5 hK4.lt; have hcK5 := hK5.cell; have hzk5 := hK5.lt)
      | (go_at_call 21; (with_reducible refine (hpq _ _ _ (hBq.alloc _)).mono ?_); rintro e w6 ⟨rfl, hb6⟩))
    go_ret
    have hbx := (below_then hbw (below_then hb2 (below_then (below_of_alloc hb3) hb4))).setCell (p := ⟨g, i, none⟩) (by show _ ≤ g; omega) (q8 (x ^^^ by_))
    exact ⟨rfl, below_then (hbx.trans (hb5.mono hbx.size)) (below_of_alloc hb6)⟩
theorem pduTurned_walk (k : K4) (v : Value) (p : P7) (at_ : Int) (_ : -9223372036854775808 ≤ at_) (_ : at_ ≤ 9223372036854775807) (by_ : UInt8) (w : World) (hv : IsPduB p v w) : Calls Try.prog 8 #[.agg #[q32 k.k0, q32 k.k1, q32 k.k2, q32 k.k3], v, .int .i64 at_, q8 by_] w fun e w' => e = .returned (.bool true) ∧ Below w.heap.size w w' := by
  obtain ⟨A, c, rfl, hB⟩ := hv
  have hl := hB.len_le
  by_cases hlen : p.body.length ≤ 2000
  · by_cases he : may (seal7 k p) = true ∧ (seal7 k p).kind ≠ 1
    · exact turned_late k _ p rfl A c at_ by_ w hB hlen he.1 he.2
    · refine turned_early k _ p rfl A c at_ by_ w hB hlen ?_
      cases hm : may (seal7 k p) with
      | false => exact .inl rfl
      | true => exact .inr (Decidable.byContradiction fun h => he ⟨hm, h⟩)
  · go_enter Try.func8, Try.ntmps8
    go_wp2_with (go_at_call 9; (with_reducible refine (awake9_any _).mono ?_); rintro e w1 ⟨rfl, hb1⟩; obtain ⟨hcR1, _⟩ := bcell hb1; have hz1 : w.heap.size + 1 < w1.heap.size := (by have := hb1.size; simp at this; omega))
    go_ret
    exact ⟨rfl, below_of_alloc (below_of_alloc hb1)⟩

set_option maxRecDepth 100000 in
theorem pduTurned_lifted (os : Os) (started : os.Started) (H : Type) (enc : TypeId × Value → H) :
    ReturnsInHanded {} Try.checked os 8 .any (Rows.pduTurnedSpec.pre6 enc Try.prog Try.f8 Rows.pduTurnedRow.domain false) (Rows.pduTurnedSpec.post enc Try.prog Try.f8 false true false false) := by
  refine returnsInHanded_of_change (C := Try.checked) own started (by kernel_rfl) Try.func8
    (ChangeSpec.witness6 (enc := enc) (C := Try.checked) false ⟨#[], #[.agg #[.int .u32 0, .int .u32 0, .int .u32 0, .int .u32 0], .agg #[.int .i64 0, .int .i64 0, .int .i64 0, .int .u32 0, .int .u32 0, .slice none 0 0, .int .u64 0], .int .i64 0, .int .u8 0], []⟩ 8 (by kernel_rfl) (by kernel_rfl) (by kernel_rfl) (by kernel_rfl)) ?_
  intro W base args ds gs before hval0 hW hcnd _
  have hval : ∀ (j : Nat) t v, Try.f8.params[j]? = some t → args[j]? = some v → Value.okWide Try.prog W .any base t v := hval0
  have hW' := hW
  obtain ⟨p, q, hA0, hV, rfl, hfz, hnd⟩ := hW
  have hA : DataW.TrodAll enc Try.prog W 0 (fun _ => true) true Try.f8.params.toList args.toList ds p := hA0
  rw [Try.params8] at hA hval
  obtain ⟨v0, vs0, d0, ds0, p0, q0, hargs, rfl, rfl, h0, r0⟩ := trodAll_cons hA
  obtain ⟨v1, vs1, d1, ds1, p1, q1, rfl, rfl, rfl, h1, r1⟩ := trodAll_cons r0
  obtain ⟨v2, vs2, d2, ds2, p2, q2, rfl, rfl, rfl, h2, r2⟩ := trodAll_cons r1
  obtain ⟨v3, vs3, d3, ds3, p3, q3, rfl, rfl, rfl, h3, r3⟩ := trodAll_cons r2
  obtain ⟨rfl, rfl, rfl⟩ := trodAll_nil r3
  obtain rfl : args = #[v0, v1, v2, v3] := by cases args; simp_all
  obtain ⟨rfl, rfl⟩ := trodVars_none hV
  have k0 := h0
  have lt0 : ∀ x ∈ p0, x.block < W.heap.size := by obtain ⟨m, hm⟩ := k0; exact DataW.trod_lt m _ _ _ hm
  have k1 := h1
  have lt1 : ∀ x ∈ p1, x.block < W.heap.size := by obtain ⟨m, hm⟩ := k1; exact DataW.trod_lt m _ _ _ hm
  have k2 := h2
  have lt2 : ∀ x ∈ p2, x.block < W.heap.size := by obtain ⟨m, hm⟩ := k2; exact DataW.trod_lt m _ _ _ hm
  have k3 := h3
  have lt3 : ∀ x ∈ p3, x.block < W.heap.size := by obtain ⟨m, hm⟩ := k3; exact DataW.trod_lt m _ _ _ hm
  obtain ⟨a0, rfl⟩ := open_key (hval 0 38 v0 rfl rfl) h0
  obtain ⟨s1, b1⟩ := open_pdu (hval 1 26 v1 rfl rfl) h1
  obtain ⟨a2, rfl, _, _, w2⟩ := open_int Try.underlying3 (hval 2 3 v2 rfl rfl) h2
  obtain ⟨a3, rfl⟩ := open_q8 (hval 3 5 v3 rfl rfl) h3
  clear hA0 hval0
  refine (pduTurned_walk a0 v1 s1 a2 (bounds_i64 w2).1 (bounds_i64 w2).2 a3 W b1).mono fun e W' ⟨he, bel⟩ => ?_
  subst he
  exact ⟨_, rfl, _, _, _, [], _, [], hW', trodAll_mk1 (shut_bool Try.underlying4 _), (trodAll_cons_mk (Below.trod laidOut (by kernel_rfl) (of_decide_eq_true (by kernel_rfl)) k0 bel lt0) (trodAll_cons_mk (Below.trod laidOut (by kernel_rfl) (of_decide_eq_true (by kernel_rfl)) k1 bel lt1) (trodAll_cons_mk (Below.trod laidOut (by kernel_rfl) (of_decide_eq_true (by kernel_rfl)) k2 bel lt2) (trodAll_cons_mk (Below.trod laidOut (by kernel_rfl) (of_decide_eq_true (by kernel_rfl)) k3 bel lt3) trodAll_mk0)))), rfl, bel.frame _, fun h => by cases h⟩

theorem pduTurned_over : Rows.pduTurnedRow.holds Try.pinned (OpenSpec.ofChange Rows.pduTurnedSpec) :=
  OpenClaim.holds_of_wide 8 Try.f8 rfl rfl rfl rfl rfl rfl rfl ⟨rfl, rfl, rfl, rfl, rfl⟩ rfl rfl rfl rfl rfl (by kernel_rfl) Try.func8 (by kernel_rfl)
    (of_decide_eq_true (by kernel_rfl)) (by unfold Func.isWrapper; rw [if_neg (of_decide_eq_false (by kernel_rfl))]; exact ⟨rfl, rfl⟩)
    (fun os started H enc _ => pduTurned_lifted os started H enc)

/-- THE STATEMENT. -/
theorem pduTurned_holds : Rows.PduTurnedSaid := pduTurned_over
end Go.Proofs.Ytchjcfbhpgigjaa
