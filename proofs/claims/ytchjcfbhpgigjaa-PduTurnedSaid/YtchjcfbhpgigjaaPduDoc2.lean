/- The document's functions: the bytes, and whether two PDUs are the same. -/
import Derived.Test.YtchjcfbhpgigjaaPduDoc
set_option linter.unusedSimpArgs false
set_option linter.unusedVariables false
namespace Go.Proofs.Ytchjcfbhpgigjaa
open Go.RowKit Go.Shelf

theorem textB_pos (p : P7) : 4 ≤ (textB p).length := by
  unfold textB
  simp only [List.length_append, be_length]
  omega
set_option maxHeartbeats 2000000 in
theorem renc_yes (kind dir train : Int) (a b : BitVec 32) (body : List UInt8) (mac : BitVec 64) (A : Option Addr) (n c : Nat) (w : World) (hn : body.length = n) (hB : Bytes w A c body) (hlen : body.length ≤ 2000) (hm : may ⟨kind, dir, train, a, b, body, mac⟩ = true) :
    Calls Try.prog 11 #[.agg #[.int .i64 kind, .int .i64 dir, .int .i64 train, q32 a, q32 b, .slice A n c, q64 mac]] w fun e w' => ∃ v, e = .returned (.tuple #[v, .int .i64 0]) ∧ IsBytes (enc ⟨kind, dir, train, a, b, body, mac⟩) v w' ∧ Below w.heap.size w w' := by
  have hmay : ∀ W, Calls Try.prog 15 #[.agg #[.int .i64 kind, .int .i64 dir, .int .i64 train, q32 a, q32 b, .slice A n c, q64 mac]] W fun e w' => e = .returned (.bool (may ⟨kind, dir, train, a, b, body, mac⟩)) ∧ Below W.heap.size W w' :=
    fun W => rmay_k ⟨kind, dir, train, a, b, body, mac⟩ A n c W hn.symm (by show body.length ≤ _; omega)
  rw [hm] at hmay
  have htext : ∀ W, Bytes W A c body → Calls Try.prog 13 #[.agg #[.int .i64 kind, .int .i64 dir, .int .i64 train, q32 a, q32 b, .slice A n c, q64 mac]] W fun e w' => ∃ A' n' c', e = .returned (.slice A' n' c') ∧ n' = (text ⟨kind, dir, train, a, b, body, mac⟩).length ∧ OwnB w' (W.heap.size + 1) A' c' (text ⟨kind, dir, train, a, b, body, mac⟩) ∧ Below W.heap.size W w' :=
    fun W h => rtext_k ⟨kind, dir, train, a, b, body, mac⟩ A n c W hn h hlen
  have htl : 0 < (text ⟨kind, dir, train, a, b, body, mac⟩).length := by
    have := textB_pos ⟨kind, dir, train, a, b, body, mac⟩
    simp only [text, hm, if_true]
    omega
  have htl2 := text_small ⟨kind, dir, train, a, b, body, mac⟩ hlen
  have he : enc ⟨kind, dir, train, a, b, body, mac⟩ = text ⟨kind, dir, train, a, b, body, mac⟩ ++ (if 1 < kind then be 8 mac.toNat else []) := by simp [enc, text, hm]
  rw [he]
  clear he hm
  have htl3 : (text ⟨kind, dir, train, a, b, body, mac⟩).length ≤ 60000 := by
    have := textB_len ⟨kind, dir, train, a, b, body, mac⟩
    unfold text
    split
    · simp at this; omega
    · simp
  generalize text ⟨kind, dir, train, a, b, body, mac⟩ = tx at *
  by_cases hk : 1 < kind
  · rw [if_pos hk]
    go_enter Try.func11, Try.ntmps11
    go_wp2_with (first
      | (go_at_call 15; (with_reducible refine (hmay _).mono ?_); rintro e w1 ⟨rfl, hb⟩; obtain ⟨hc1, _⟩ := bcell hb; have hz : w.heap.size < w1.heap.size := (by have := hb.size; simp at this; omega); have hbw1 := below_of_alloc hb)
      | (go_at_call 13; (with_reducible refine (htext _ (hB.below hbw1)).mono ?_); rintro e w2 ⟨A2, n2, c2, rfl, hn2, ho2, hb2⟩; obtain ⟨hc2, _⟩ := bcell hb2; replace hn2 := Lib.hid hn2)
      | (go_at_call 25; (with_reducible refine (put_8 (w1.heap.size + 1) A2 n2 c2 tx mac w2 hn2.out ho2 (by obtain ⟨g, _, h1, h2⟩ := ho2.addr htl; omega) htl3).mono ?_); rintro e w3 ⟨A3, c3, rfl, ho3, hb3⟩))
    go_ret2
    exact ⟨_, rfl, ⟨A3, c3, by rw [List.length_append, be_length, hn2.out]; rfl, ho3.bytes⟩, hbw1.trans ((hb2.trans (hb3.mono (by omega))).mono (by omega))⟩
  · rw [if_neg hk, List.append_nil]
    go_enter Try.func11, Try.ntmps11
    go_wp2_with (first
      | (go_at_call 15; (with_reducible refine (hmay _).mono ?_); rintro e w1 ⟨rfl, hb⟩; obtain ⟨hc1, _⟩ := bcell hb; have hz : w.heap.size < w1.heap.size := (by have := hb.size; simp at this; omega); have hbw1 := below_of_alloc hb)
      | (go_at_call 13; (with_reducible refine (htext _ (hB.below hbw1)).mono ?_); rintro e w2 ⟨A2, n2, c2, rfl, hn2, ho2, hb2⟩; obtain ⟨hc2, _⟩ := bcell hb2; replace hn2 := Lib.hid hn2))
    go_ret2
    exact ⟨_, rfl, ⟨A2, c2, by rw [hn2.out]; rfl, ho2.bytes⟩, hbw1.trans (hb2.mono (by omega))⟩
theorem prenc_k (p : P7) (A : Option Addr) (n c : Nat) (w : World) (hn : p.body.length = n) (hB : Bytes w A c p.body) (hlen : p.body.length ≤ 2000) :
    Calls Try.prog 11 #[.agg #[.int .i64 p.kind, .int .i64 p.dir, .int .i64 p.train, q32 p.a, q32 p.b, .slice A n c, q64 p.mac]] w fun e w' => ∃ v, e = .returned (.tuple #[v, .int .i64 (if may p then 0 else 1)]) ∧ IsBytes (enc p) v w' ∧ Below w.heap.size w w' := by
  obtain ⟨kind, dir, train, a, b, body, mac⟩ := p
  simp only at hn hB hlen ⊢
  cases hm : may ⟨kind, dir, train, a, b, body, mac⟩ with
  | false =>
    have ht : enc ⟨kind, dir, train, a, b, body, mac⟩ = [] := by simp [enc, hm]
    have hmay : ∀ W, Calls Try.prog 15 #[.agg #[.int .i64 kind, .int .i64 dir, .int .i64 train, q32 a, q32 b, .slice A n c, q64 mac]] W fun e w' => e = .returned (.bool (may ⟨kind, dir, train, a, b, body, mac⟩)) ∧ Below W.heap.size W w' :=
      fun W => rmay_k ⟨kind, dir, train, a, b, body, mac⟩ A n c W hn.symm (by show body.length ≤ _; omega)
    rw [hm] at hmay
    rw [ht]
    clear hm ht
    go_enter Try.func11, Try.ntmps11
    go_wp2_with (go_at_call 15; (with_reducible refine (hmay _).mono ?_); rintro e w1 ⟨rfl, hb⟩)
    go_ret2
    exact ⟨_, rfl, ⟨none, 0, rfl, Bytes.nil _⟩, below_of_alloc hb⟩
  | true => exact renc_yes kind dir train a b body mac A n c w hn hB hlen hm
theorem strOf_eq (a b : List UInt8) : (strOf a).toList = (strOf b).toList ↔ a = b := by
  rw [strOf_toList, strOf_toList]
set_option maxHeartbeats 4000000 in
theorem same_k (p q : P7) (A1 : Option Addr) (n1 c1 : Nat) (A2 : Option Addr) (n2 c2 : Nat) (w : World) (h1 : n1 = p.body.length) (h2 : n2 = q.body.length) (hB1 : Bytes w A1 c1 p.body) (hB2 : Bytes w A2 c2 q.body) :
    Calls Try.prog 18 #[.agg #[.int .i64 p.kind, .int .i64 p.dir, .int .i64 p.train, q32 p.a, q32 p.b, .slice A1 n1 c1, q64 p.mac], .agg #[.int .i64 q.kind, .int .i64 q.dir, .int .i64 q.train, q32 q.a, q32 q.b, .slice A2 n2 c2, q64 q.mac]] w fun e w' => e = .returned (.bool (decide (p = q))) ∧ Below w.heap.size w w' := by
  subst h1 h2
  obtain ⟨k1, d1, t1, a1, b1, l1, m1⟩ := p
  obtain ⟨k2, d2, t2, a2, b2, l2, m2⟩ := q
  simp only at hB1 hB2 ⊢
  have c1' := fun o1 o2 => run_bytes_string ((hB1.alloc o1).alloc o2)
  have c2' := fun o1 o2 => run_bytes_string ((hB2.alloc o1).alloc o2)
  have hse := strOf_eq l1 l2
  generalize strOf l1 = s1 at *
  generalize strOf l2 = s2 at *
  go_enter Try.func18, Try.ntmps18
  go_wp2_with fail
  all_goals
    go_ret
    refine ⟨congrArg (fun b => Ending.returned (Value.bool b)) ?_, ((Below.refl _ _).alloc (Nat.le_refl _) _).alloc (by simp) _⟩
    rw [Bool.eq_iff_iff]
    simp only [decide_eq_true_eq, P7.mk.injEq]
    rw [← hse]
    simp_all
end Go.Proofs.Ytchjcfbhpgigjaa
