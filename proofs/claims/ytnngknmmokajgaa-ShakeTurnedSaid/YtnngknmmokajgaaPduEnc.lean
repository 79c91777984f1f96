/- A PDU's bytes. -/
import Derived.Test.YtnngknmmokajgaaPduText
set_option linter.unusedSimpArgs false
set_option linter.unusedVariables false
namespace Go.Proofs.Ytnngknmmokajgaa
open Go.RowKit Go.Shelf

theorem text_k' (kind dir train : Int) (a b : BitVec 32) (body : List UInt8) (mac : BitVec 64) (A : Option Addr) (c : Nat) (w : World) (hB : Bytes w A c body) (hlen : body.length ≤ 2000) :
    Calls Try.prog 51 #[.agg #[.int .i64 kind, .int .i64 dir, .int .i64 train, q32 a, q32 b, .slice A body.length c, q64 mac]] w fun e w' => ∃ v, e = .returned v ∧ NewBytes w.heap.size (text ⟨kind, dir, train, a, b, body, mac⟩) v w' ∧ Below w.heap.size w w' :=
  text_k ⟨kind, dir, train, a, b, body, mac⟩ A body.length c w rfl hB hlen
def hi32 (x : BitVec 64) : BitVec 32 := (x >>> 32).setWidth 32
def lo32 (x : BitVec 64) : BitVec 32 := x.setWidth 32
theorem low_32 (x : BitVec 64) : (x.setWidth 32).toNat = x.toNat % 4294967296 := by simp
theorem be8 (x : BitVec 64) : be 4 (hi32 x).toNat ++ be 4 (lo32 x).toNat = be 8 x.toNat := by
  unfold hi32 lo32
  have h := x.isLt
  rw [show (8 : Nat) = 4 + 4 from rfl, be_add, ← be_mod 4 x.toNat, low_32, low_32, BitVec.toNat_ushiftRight, Nat.shiftRight_eq_div_pow]
  have e : x.toNat / 2 ^ 32 % 4294967296 = x.toNat / 256 ^ 4 := by simp; omega
  rw [e]
theorem textB_len (p : P7) : (textB p).length ≤ 14 + p.body.length := by
  unfold textB
  simp only [List.length_append, be_length]
  have h1 : (if p.kind ≤ 3 then be 4 p.a.toNat else []).length ≤ 4 := by split <;> simp [be_length]
  have h2 : (if 2 ≤ p.kind then be 4 p.b.toNat else []).length ≤ 4 := by split <;> simp [be_length]
  have h3 : (if p.kind = 5 then be 2 p.body.length else []).length ≤ 2 := by split <;> simp [be_length]
  omega
theorem NewBytes.nil {base : Nat} {w : World} : NewBytes base [] (.slice none 0 0) w := ⟨none, 0, rfl, Bytes.nil _, fun h => absurd h (by simp)⟩
theorem enc_no (kind dir train : Int) (a b : BitVec 32) (body : List UInt8) (mac : BitVec 64) (A : Option Addr) (c : Nat) (w : World) (hlen : body.length ≤ 2000) (hm : may ⟨kind, dir, train, a, b, body, mac⟩ = false) :
    Calls Try.prog 47 #[.agg #[.int .i64 kind, .int .i64 dir, .int .i64 train, q32 a, q32 b, .slice A body.length c, q64 mac]] w fun e w' => e = .returned (.tuple #[.slice none 0 0, .int .i64 1]) ∧ Below w.heap.size w w' := by
  have hmay := fun W => may_k' kind dir train a b body mac A c W (by omega)
  rw [hm] at hmay
  clear hm
  go_enter Try.func47, Try.ntmps47
  go_wp2_with (first
    | (go_at_call 42; (with_reducible refine (hmay _).mono ?_); rintro e w1 ⟨rfl, hb⟩))
  go_ret2
  exact ⟨rfl, below_of_alloc hb⟩
theorem enc_1 (dir train : Int) (a b : BitVec 32) (body : List UInt8) (mac : BitVec 64) (A : Option Addr) (c : Nat) (w : World) (hB : Bytes w A c body) (hlen : body.length ≤ 2000) (hm : may ⟨1, dir, train, a, b, body, mac⟩ = true) :
    Calls Try.prog 47 #[.agg #[.int .i64 1, .int .i64 dir, .int .i64 train, q32 a, q32 b, .slice A body.length c, q64 mac]] w fun e w' => ∃ v, e = .returned (.tuple #[v, .int .i64 0]) ∧ NewBytes w.heap.size (enc ⟨1, dir, train, a, b, body, mac⟩) v w' ∧ Below w.heap.size w w' := by
  have e : enc ⟨1, dir, train, a, b, body, mac⟩ = text ⟨1, dir, train, a, b, body, mac⟩ := by simp [enc, text, hm]
  rw [e]
  clear e
  have hmay := fun W => may_k' 1 dir train a b body mac A c W (by omega)
  have htext := fun W (h : Bytes W A c body) => text_k' 1 dir train a b body mac A c W h hlen
  rw [hm] at hmay
  clear hm
  go_enter Try.func47, Try.ntmps47
  go_wp2_with (first
    | (go_at_call 42; (with_reducible refine (hmay _).mono ?_); rintro e w1 ⟨rfl, hb⟩; obtain ⟨hc, _⟩ := bcell hb; have hz : w.heap.size < w1.heap.size := by have := hb.size; simp at this; omega)
    | (go_at_call 51; (with_reducible refine (htext _ (hB.below (below_of_alloc hb))).mono ?_); rintro e w2 ⟨v, rfl, hv, hb2⟩))
  go_ret2
  exact ⟨_, rfl, hv.mono (by omega), below_then (below_of_alloc hb) hb2⟩
set_option maxHeartbeats 4000000 in
theorem enc_2 (kind dir train : Int) (a b : BitVec 32) (body : List UInt8) (mac : BitVec 64) (A : Option Addr) (c : Nat) (w : World) (hB : Bytes w A c body) (hlen : body.length ≤ 2000) (hm : may ⟨kind, dir, train, a, b, body, mac⟩ = true) (hk : kind ≠ 1) :
    Calls Try.prog 47 #[.agg #[.int .i64 kind, .int .i64 dir, .int .i64 train, q32 a, q32 b, .slice A body.length c, q64 mac]] w fun e w' => ∃ v, e = .returned (.tuple #[v, .int .i64 0]) ∧ NewBytes w.heap.size (enc ⟨kind, dir, train, a, b, body, mac⟩) v w' ∧ Below w.heap.size w w' := by
  have e : enc ⟨kind, dir, train, a, b, body, mac⟩ = [text ⟨kind, dir, train, a, b, body, mac⟩, be 4 (hi32 mac).toNat, be 4 (lo32 mac).toNat].flatten := by
    have h1 : 1 < kind := by have := may_iff.1 hm; unfold MayP at this; simp only at this; omega
    simp only [List.flatten_cons, List.flatten_nil, List.append_nil]
    rw [be8]
    simp [enc, text, hm, h1]
  rw [e]
  clear e
  have hmay := fun W => may_k' kind dir train a b body mac A c W (by omega)
  have htext := fun W (h : Bytes W A c body) => text_k' kind dir train a b body mac A c W h hlen
  have hT : (text ⟨kind, dir, train, a, b, body, mac⟩).length ≤ 2014 := by
    have := textB_len ⟨kind, dir, train, a, b, body, mac⟩
    simp [text, hm]
    simp at this
    omega
  rw [hm] at hmay
  clear hm
  generalize hTx : text ⟨kind, dir, train, a, b, body, mac⟩ = T at *
  clear hTx
  replace hlen := Lib.hid hlen
  replace hT := Lib.hid hT
  go_enter Try.func47, Try.ntmps47
  go_wp2_with (first
    | (go_at_call 42; (with_reducible refine (hmay _).mono ?_); rintro e w1 ⟨rfl, hb⟩; obtain ⟨hc, _⟩ := bcell hb; have hz : w.heap.size < w1.heap.size := by have := hb.size; simp at this; omega))
  have hb01 := below_of_alloc hb
  have hB1 : Bytes w1 A c body := hB.below hb01
  have hk1 : (kind == 1) = false := by simpa using hk
  simp only [hk1]
  apply wp_region_lex
  case hFl =>
    intro u
    simp only [List.map, fill, Act.put, List.setIfInBounds_toArray, List.set_cons_zero, List.set_cons_succ, Nat.reduceAdd, Nat.zero_add]
    rfl
  case hm => kernel_rfl
  case hB => kernel_rfl
  case hap => kernel_rfl
  apply Lex.is
  · (intro u w' hk hd
     simp [Waited, Region.binds, Is] at hd
     refine looked_want (by first | rfl | simp [Region.wanted, yielded, hd]) ?_
     intro K hK
     obtain ⟨hcR, _⟩ := bcell hk
     go_wp2_with (fail)
     try simp only [hd] at hK
     refine hK _ _ ?_ rfl
     first | exact Below.refl _ _ | exact hb3)
  refine Lex.word (NewBytes w1.heap.size T) (fun _ _ _ h hb => h.grow hb) ?_ ?_
  · (intro u w' hk hd
     simp [Waited, Region.binds, Is] at hd
     refine looked_want (by first | rfl | simp [Region.wanted, yielded, hd]) ?_
     intro K hK
     obtain ⟨hcR, _⟩ := bcell hk
     skip
     go_wp2_with (go_at_call 51; (with_reducible refine (htext _ (hB1.below hk)).mono ?_); rintro e w3 ⟨v3, rfl, hv3, hb3⟩)
     try simp only [hd] at hK
     exact hK _ _ hb3 (hv3.mono hk.size))
  iterate 3 (
    apply Lex.is
    · (intro u w' hk hd
       simp [Waited, Region.binds, Is] at hd
       refine looked_want (by first | rfl | simp [Region.wanted, yielded, hd]) ?_
       intro K hK
       obtain ⟨hcR, _⟩ := bcell hk
       go_wp2_with (fail)
       try simp only [hd] at hK
       refine hK _ _ ?_ rfl
       first | exact Below.refl _ _ | exact hb3)
    )
  refine Lex.is (c := (q32 (hi32 mac))) ?_ ?_
  · (intro u w' hk hd
     simp [Waited, Region.binds, Is] at hd
     refine looked_want (by first | rfl | simp [Region.wanted, yielded, hd]) ?_
     intro K hK
     obtain ⟨hcR, _⟩ := bcell hk
     go_wp2_with fail
     try simp only [hd] at hK
     refine hK _ _ ?_ rfl
     exact Below.refl _ _)
  refine Lex.word (IsWord (hi32 mac).toNat) (fun _ _ _ h hb => h.grow hb) ?_ ?_
  · (intro u w' hk hd
     simp [Waited, Region.binds, Is] at hd
     refine looked_want (by first | rfl | simp [Region.wanted, yielded, hd]) ?_
     intro K hK
     obtain ⟨hcR, _⟩ := bcell hk
     skip
     go_wp2_with (go_at_call 57; (with_reducible refine (word_w _ _).mono ?_); rintro e w3 ⟨v3, rfl, hv3, hb3⟩)
     try simp only [hd] at hK
     exact hK _ _ hb3 hv3)
  iterate 2 (
    apply Lex.is
    · (intro u w' hk hd
       simp [Waited, Region.binds, Is] at hd
       refine looked_want (by first | rfl | simp [Region.wanted, yielded, hd]) ?_
       intro K hK
       obtain ⟨hcR, _⟩ := bcell hk
       go_wp2_with (fail)
       try simp only [hd] at hK
       refine hK _ _ ?_ rfl
       first | exact Below.refl _ _ | exact hb3)
    )
  refine Lex.is (c := (q32 (lo32 mac))) ?_ ?_
  · (intro u w' hk hd
     simp [Waited, Region.binds, Is] at hd
     refine looked_want (by first | rfl | simp [Region.wanted, yielded, hd]) ?_
     intro K hK
     obtain ⟨hcR, _⟩ := bcell hk
     go_wp2_with fail
     try simp only [hd] at hK
     refine hK _ _ ?_ rfl
     exact Below.refl _ _)
  refine Lex.word (IsWord (lo32 mac).toNat) (fun _ _ _ h hb => h.grow hb) ?_ ?_
  · (intro u w' hk hd
     simp [Waited, Region.binds, Is] at hd
     refine looked_want (by first | rfl | simp [Region.wanted, yielded, hd]) ?_
     intro K hK
     obtain ⟨hcR, _⟩ := bcell hk
     skip
     go_wp2_with (go_at_call 57; (with_reducible refine (word_w _ _).mono ?_); rintro e w3 ⟨v3, rfl, hv3, hb3⟩)
     try simp only [hd] at hK
     exact hK _ _ hb3 hv3)
  have hTl := hT.out
  refine Lex.word (IsParts [T, be 4 (hi32 mac).toNat, be 4 (lo32 mac).toNat]) (fun _ _ _ h hb => h.grow hb) ?_ ?_
  · (intro u w' hk hd
     simp [Waited, Region.binds, Is] at hd
     refine looked_want (by first | rfl | simp [Region.wanted, yielded, hd]) ?_
     intro K hK
     obtain ⟨hcR, _⟩ := bcell hk
     obtain ⟨⟨A0, c0, d0, hB0, _⟩, ⟨g1', d1, hg1'⟩, ⟨g2', d2, hg2'⟩⟩ := hd
     go_wp2_with (fail)
     simp only [d0, d1, d2] at hK
     exact hK _ _ ((Below.refl _ _).alloc (Nat.le_refl _) _) ⟨_, _, rfl, Blk.new _ _ _, ⟨_, _, rfl, hB0.alloc _⟩, word4_is (hg1'.alloc _) (be_length _ _), word4_is (hg2'.alloc _) (be_length _ _), trivial⟩)
  refine Lex.word (NewBytes w1.heap.size ([T, be 4 (hi32 mac).toNat, be 4 (lo32 mac).toNat].flatten)) (fun _ _ _ h hb => h.grow hb) ?_ ?_
  · (intro u w' hk hd
     simp [Waited, Region.binds] at hd
     obtain ⟨⟨gp, vs, d0, hgp, hP⟩, _⟩ := hd
     refine looked_want (by first | rfl | simp [Region.wanted, yielded]) ?_
     intro K hK
     go_wp2_with (go_at_call 49; go_loud (refine (joined_is ([T, be 4 (hi32 mac).toNat, be 4 (lo32 mac).toNat]) gp 3 vs _ rfl hgp hP (by simp) (by simp) (by simp [Lib.lens, be_length] <;> omega)).mono ?_); rintro e w3 ⟨v3, rfl, hv3, hb3⟩)
     try simp only [d0] at hK
     exact hK _ _ hb3 (hv3.mono hk.size))
  refine Lex.word (NewBytes w1.heap.size ([T, be 4 (hi32 mac).toNat, be 4 (lo32 mac).toNat].flatten)) (fun _ _ _ h hb => h.grow hb) ?_ ?_
  · (intro u w' hk hd
     simp [Waited, Region.binds] at hd
     refine looked_want (by first | rfl | simp [Region.wanted, yielded]) ?_
     intro K hK
     go_wp2_with fail
     exact hK _ _ (Below.refl _ _) (by first | simpa using hd | simpa using hd.1))
  apply Lex.is
  · (intro u w' hk hd
     simp [Waited, Region.binds, Is] at hd
     refine looked_want (by first | rfl | simp [Region.wanted, yielded, hd]) ?_
     intro K hK
     obtain ⟨hcR, _⟩ := bcell hk
     go_wp2_with (fail)
     try simp only [hd] at hK
     refine hK _ _ ?_ rfl
     first | exact Below.refl _ _ | exact hb3)
  apply Lex.nil
  intro u w' hk hd
  simp only [List.nil_append, List.cons_append] at hd
  have hlast := hd 13 _ rfl
  have hzero := hd 14 _ rfl
  clear hd
  simp only [Is] at hzero
  rw [hzero]
  go_wp2_with fail
  go_ret2
  exact ⟨_, rfl, hlast.mono (by have := hb01.size; omega), below_then hb01 hk⟩
theorem penc_k (p : P7) (A : Option Addr) (n c : Nat) (w : World) (hn : n = p.body.length) (hB : Bytes w A c p.body) (hlen : p.body.length ≤ 2000) :
    Calls Try.prog 47 #[.agg #[.int .i64 p.kind, .int .i64 p.dir, .int .i64 p.train, q32 p.a, q32 p.b, .slice A n c, q64 p.mac]] w fun e w' => ∃ v, e = .returned (.tuple #[v, .int .i64 (if may p then 0 else 1)]) ∧ NewBytes w.heap.size (enc p) v w' ∧ Below w.heap.size w w' := by
  subst hn
  obtain ⟨kind, dir, train, a, b, body, mac⟩ := p
  simp only at hlen hB ⊢
  cases hm : may ⟨kind, dir, train, a, b, body, mac⟩ with
  | false =>
    refine (enc_no kind dir train a b body mac A c w hlen hm).mono ?_
    rintro e w' ⟨rfl, hb⟩
    exact ⟨_, rfl, by simp only [enc, hm]; exact NewBytes.nil, hb⟩
  | true =>
    by_cases hk : kind = 1
    · subst hk
      exact enc_1 dir train a b body mac A c w hB hlen hm
    · exact enc_2 kind dir train a b body mac A c w hB hlen hm hk
theorem joined_one (A : Option Addr) (n c : Nat) (l : List UInt8) (w : World) (g : Nat) (hn : n = l.length) (hg : g = w.heap.size) (hB : Bytes w A c l) (hlen : l.length ≤ 65536) :
    Calls Try.prog 49 #[.slice (some ⟨g, 0, none⟩) 1 1] (w.alloc (.cells #[.slice A n c] 27)) fun e w' => ∃ v, e = .returned v ∧ NewBytes (w.alloc (.cells #[.slice A n c] 27)).heap.size l v w' ∧ Below (w.alloc (.cells #[.slice A n c] 27)).heap.size (w.alloc (.cells #[.slice A n c] 27)) w' := by
  subst hn
  have := joined_is [l] g 1 #[.slice A l.length c] (w.alloc (.cells #[.slice A l.length c] 27)) rfl (Blk.newAt _ _ _ _ hg) ⟨⟨A, c, rfl, hB.alloc _⟩, trivial⟩ (by simp) (by simp) (by simp [Lib.lens]; omega)
  simpa only [List.flatten_cons, List.flatten_nil, List.append_nil] using this
end Go.Proofs.Ytnngknmmokajgaa
