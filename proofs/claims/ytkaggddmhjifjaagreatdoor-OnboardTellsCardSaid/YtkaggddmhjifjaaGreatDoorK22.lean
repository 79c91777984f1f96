/- Texts in one: PduText. -/
import Derived.Test.YtkaggddmhjifjaaGreatDoorK21
import Derived.Test.YtkaggddmhjifjaaGreatDoorK01
set_option linter.unusedSimpArgs false
set_option linter.unusedVariables false
set_option maxRecDepth 16000
namespace Go.Proofs.YtkaggddmhjifjaaGreatDoor
open Go.RowKit Go.Shelf
section
variable {P : Program} (w : World) (src dst : TypeId)
theorem conv_i64_32 (n : Int) (hs : P.underlying src = some (.int .i64)) (hd : P.underlying dst = some (.int .u32)) :
  (convert src dst (.int .i64 n)).run P w = .ok (q32 (BitVec.ofInt 32 n)) w := by
 have e : IntKind.u32.wrap n = ((BitVec.ofInt 32 n).toNat : Int) := by
  rw [IntKind.wrap_u32, BitVec.toNat_ofInt]
  omega
 simp [convert, run_underlying hs, run_underlying hd, Conv.intToInt, e, q32]
theorem conv_i64_64 (n : Int) (hs : P.underlying src = some (.int .i64)) (hd : P.underlying dst = some (.int .u64)) :
  (convert src dst (.int .i64 n)).run P w = .ok (q64 (BitVec.ofInt 64 n)) w := by
 have e : IntKind.u64.wrap n = ((BitVec.ofInt 64 n).toNat : Int) := by
  rw [IntKind.wrap_u64, BitVec.toNat_ofInt]
  omega
 simp [convert, run_underlying hs, run_underlying hd, Conv.intToInt, e, q64]
end
attribute [local go_sem high] conv_i64_32 conv_i64_64
def IsWord (x : Nat) : Value → World → Prop := fun v w => ∃ g, v = .slice (some ⟨g, 0, none⟩) 4 4 ∧ Bytes w (some ⟨g, 0, none⟩) 4 (be 4 x)
theorem IsWord.grow {x : Nat} {v : Value} {w w' : World} (h : IsWord x v w) (hb : Below w.heap.size w w') : IsWord x v w' := by
 obtain ⟨g, e, hB⟩ := h
 exact ⟨g, e, hB.below hb⟩
theorem IsWord.is {x : Nat} {v : Value} {w : World} (h : IsWord x v w) : IsBytes (be 4 x) v w := by
 obtain ⟨g, e, hB⟩ := h
 exact ⟨_, 4, by rw [e, be_length], hB⟩
theorem word_w (a : BitVec 32) (w : World) : Calls Tryz.prog 185 #[q32 a] w fun e w' => ∃ v, e = .returned v ∧ IsWord a.toNat v w' ∧ Below w.heap.size w w' := by
 go_enter Tryz.func185, Tryz.ntmps185
 go_wp2
 go_ret
 refine ⟨_, rfl, ⟨w.heap.size, rfl, ?_, ?_, by decide⟩, (Below.refl _ _).alloc (Nat.le_refl _) _⟩
 ·
  rw [be4]
  exact Row.block (Blk.new w _ _)
 ·
  rw [be_length]; exact Nat.le_refl _
def Parts (w : World) : List Value → List (List UInt8) → Prop
 | [], [] => True
 | v :: vs, l :: ls => IsBytes l v w ∧ Parts w vs ls
 | _, _ => False
theorem Parts.grow {w w' : World} (hb : Below w.heap.size w w') : ∀ (vs : List Value) (ls : List (List UInt8)), Parts w vs ls → Parts w' vs ls
 | [], [], _ => trivial
 | _ :: vs, _ :: ls, h => ⟨h.1.grow hb, Parts.grow hb vs ls h.2⟩
 | [], _ :: _, h => h.elim
 | _ :: _, [], h => h.elim
theorem Parts.get {w : World} : ∀ (vs : List Value) (ls : List (List UInt8)), Parts w vs ls → vs.length = ls.length ∧ ∀ (i : Nat) v l, vs[i]? = some v → ls[i]? = some l → IsBytes l v w
 | [], [], _ => ⟨rfl, fun i v l h => by simp at h⟩
 | v :: vs, l :: ls, h => by
  obtain ⟨h1, h2⟩ := Parts.get vs ls h.2
  refine ⟨by simp [h1], fun i v' l' hv hl => ?_⟩
  match i with
  | 0 =>
   simp only [List.getElem?_cons_zero, Option.some.injEq] at hv hl
   subst hv; subst hl
   exact h.1
  | i + 1 =>
   simp only [List.getElem?_cons_succ] at hv hl
   exact h2 i v' l' hv hl
 | [], _ :: _, h => h.elim
 | _ :: _, [], h => h.elim
def IsParts (ls : List (List UInt8)) : Value → World → Prop := fun v w => ∃ g vs, v = .slice (some ⟨g, 0, none⟩) ls.length ls.length ∧ Blk w g 47 vs ∧ Parts w vs.toList ls
theorem IsParts.grow {ls : List (List UInt8)} {v : Value} {w w' : World} (h : IsParts ls v w) (hb : Below w.heap.size w w') : IsParts ls v w' := by
 obtain ⟨g, vs, e, hg, hP⟩ := h
 exact ⟨g, vs, e, hg.below hb hg.lt, Parts.grow hb _ _ hP⟩
theorem joined_is (ls : List (List UInt8)) (g n : Nat) (vs : Array Value) (w : World) (hn : n = ls.length) (hg : Blk w g 47 vs) (hP : Parts w vs.toList ls) (h1 : 1 ≤ ls.length) (h2 : ls.length ≤ 8) (hlen : Lib.lens ls ≤ 65536) :
  Calls Tryz.prog 141 #[.slice (some ⟨g, 0, none⟩) n n] w fun e w' => ∃ v, e = .returned v ∧ NewBytes w.heap.size ls.flatten v w' ∧ Below w.heap.size w w' := by
 subst hn
 obtain ⟨h3, h4⟩ := Parts.get _ _ hP
 exact joined_block g ls.length vs ls w hg (by simpa using h3) rfl h1 h4 hlen (by omega)
def headW (k d t : Int) : BitVec 32 := BitVec.ofInt 32 (k * 2 + d) <<< 24 ||| BitVec.ofInt 32 t
theorem headW_be (k d t : Int) (hk : 0 ≤ k) (hk2 : k ≤ 6) (hd : 0 ≤ d) (hd2 : d ≤ 1) (ht : 0 ≤ t) (ht2 : t < 16777216) : be 4 (headW k d t).toNat = be 1 (2 * k + d).toNat ++ be 3 t.toNat := by
 obtain ⟨t, rfl⟩ : ∃ n : Nat, t = n := ⟨t.toNat, by omega⟩
 obtain ⟨x, hx⟩ : ∃ n : Nat, k * 2 + d = n := ⟨(k * 2 + d).toNat, by omega⟩
 have e2 : 2 * k + d = x := by omega
 rw [e2]
 have hx13 : x ≤ 13 := by omega
 have e : (headW k d t).toNat = x * 16777216 + t := by
  unfold headW
  rw [hx]
  have h1 : BitVec.ofInt 32 (x : Int) = BitVec.ofNat 32 x := by simp
  have h2 : BitVec.ofInt 32 (t : Int) = BitVec.ofNat 32 t := by simp
  rw [h1, h2, BitVec.toNat_or, BitVec.toNat_shiftLeft, BitVec.toNat_ofNat, BitVec.toNat_ofNat, Nat.shiftLeft_eq]
  have h3 : x % 2 ^ 32 = x := Nat.mod_eq_of_lt (by simp; omega)
  have h4 : t % 2 ^ 32 = t := Nat.mod_eq_of_lt (by simp; omega)
  rw [h3, h4]
  have h5 : x * 2 ^ 24 % 2 ^ 32 = 2 ^ 24 * x := by rw [Nat.mul_comm]; exact Nat.mod_eq_of_lt (by simp; omega)
  rw [h5, ← Nat.two_pow_add_eq_or_of_lt (by simp; omega)]
  simp; omega
 rw [e, show (4 : Nat) = 1 + 3 from rfl, be_add]
 have h6 : (x * 16777216 + t) / 256 ^ 3 = x := by simp; omega
 rw [h6, ← be_mod 3 (x * 16777216 + t)]
 have h7 : (x * 16777216 + t) % 256 ^ 3 = t := by simp; omega
 rw [h7]
 simp
theorem may_k' (kind dir train : Int) (a b : BitVec 32) (body : List UInt8) (mac : BitVec 64) (A : Option Addr) (c : Nat) (w : World) (hlen : body.length ≤ 65536) :
  Calls Tryz.prog 183 #[.agg #[.int .i64 kind, .int .i64 dir, .int .i64 train, q32 a, q32 b, .slice A body.length c, q64 mac]] w fun e w' => e = .returned (.bool (may ⟨kind, dir, train, a, b, body, mac⟩)) ∧ Below w.heap.size w w' :=
 may_k ⟨kind, dir, train, a, b, body, mac⟩ A body.length c w rfl hlen
theorem word_head (kind dir train : Int) (w : World) (hk : 0 ≤ kind) (hk2 : kind ≤ 6) (hd : 0 ≤ dir) (hd2 : dir ≤ 1) (ht : 0 ≤ train) (ht2 : train < 16777216) :
  Calls Tryz.prog 185 #[q32 (BitVec.ofInt 32 (kind * 2 + dir) <<< 24 ||| BitVec.ofInt 32 train)] w fun e w' => ∃ g, e = .returned (.slice (some ⟨g, 0, none⟩) 4 4) ∧ Bytes w' (some ⟨g, 0, none⟩) 4 (be 1 (2 * kind + dir).toNat ++ be 3 train.toNat) ∧ Below w.heap.size w w' := by
 rw [← headW_be kind dir train hk hk2 hd hd2 ht ht2]
 refine (word_w (headW kind dir train) w).mono ?_
 rintro e w' ⟨v, rfl, ⟨g, rfl, hB⟩, hb⟩
 exact ⟨g, rfl, hB, hb⟩
theorem word4_is {w : World} {g : Nat} {l : List UInt8} (h : Bytes w (some ⟨g, 0, none⟩) 4 l) (hl : l.length = 4) : IsBytes l (.slice (some ⟨g, 0, none⟩) 4 4) w := ⟨_, 4, by rw [hl], h⟩
set_option maxHeartbeats 4000000 in
theorem text_1 (dir train : Int) (a b : BitVec 32) (body : List UInt8) (mac : BitVec 64) (A : Option Addr) (c : Nat) (w : World) (hB : Bytes w A c body) (hlen : body.length ≤ 2000) (hm : may ⟨1, dir, train, a, b, body, mac⟩ = true) :
  Calls Tryz.prog 184 #[.agg #[.int .i64 1, .int .i64 dir, .int .i64 train, q32 a, q32 b, .slice A body.length c, q64 mac]] w fun e w' => ∃ v, e = .returned v ∧ NewBytes w.heap.size (textB ⟨1, dir, train, a, b, body, mac⟩) v w' ∧ Below w.heap.size w w' := by
 obtain ⟨g1, g2, g3, g4, hsize⟩ : 0 ≤ train ∧ train < 16777216 ∧ 0 ≤ dir ∧ dir ≤ 1 ∧ (body.length = 0) := by
  have hM := may_iff.1 hm
  unfold MayP at hM
  simp only at hM
  obtain ⟨g1, g2, g3, g4, g5⟩ := hM
  exact ⟨g1, g2, g3, g4, by omega⟩
 have e : textB ⟨1, dir, train, a, b, body, mac⟩ = ([be 1 (2 * 1 + dir).toNat ++ be 3 train.toNat, be 4 a.toNat]).flatten := by
  rw [List.eq_nil_of_length_eq_zero hsize]
  simp [textB]
 rw [e]
 clear e
 have hhl : (be 1 (2 * 1 + dir).toNat ++ be 3 train.toNat).length = 4 := by simp [be_length]
 have hwh := fun W => word_head 1 dir train W (by omega) (by omega) g3 g4 g1 g2
 have hmay := fun W => may_k' 1 dir train a b body mac A c W (by omega)
 rw [hm] at hmay
 simp only [Int.reduceMul] at hwh hhl ⊢
 replace hsize := Lib.hid hsize
 go_enter Tryz.func184, Tryz.ntmps184
 go_wp2_with (first
  |(go_at_call 183; (with_reducible refine (hmay _).mono ?_); rintro e w1 ⟨rfl, hb⟩; obtain ⟨hc, _⟩ := bcell hb; have hz : w.heap.size < w1.heap.size := by have := hb.size; simp at this; omega)
  |(go_at_call 185; (with_reducible refine (hwh _).mono ?_); rintro e w2 ⟨gh, rfl, hv, hb2⟩; obtain ⟨hc2, _⟩ := bcell hb2; have hz2 : w.heap.size < w2.heap.size := by have := hb2.size; omega))
 have hb02 : Below w.heap.size w w2 := below_then (below_of_alloc hb) hb2
 have hB2 : Bytes w2 A c body := hB.below hb02
 refine (word_w a _).mono ?_
 rintro e w3 ⟨_, rfl, ⟨ga, rfl, hga⟩, hb3⟩
 have hv3 := hv.below hb3
 go_wp2_with (go_at_call 141; refine (joined_is [be 1 (2 + dir).toNat ++ be 3 train.toNat, be 4 a.toNat] w3.heap.size 2 #[.slice (some ⟨gh, 0, none⟩) 4 4, .slice (some ⟨ga, 0, none⟩) 4 4] _ rfl (Blk.new _ _ _) ⟨word4_is (hv3.alloc _) hhl, word4_is (hga.alloc _) (be_length _ _), trivial⟩ (by simp) (by simp) (by simp [Lib.lens, be_length])).mono ?_; rintro e w4 ⟨v, rfl, hv4, hb4⟩)
 go_ret
 exact ⟨_, rfl, hv4.mono (by have := hb3.size; simp; omega), below_then hb02 (below_then hb3 (below_of_alloc hb4))⟩
set_option maxHeartbeats 4000000 in
theorem text_6 (dir train : Int) (a b : BitVec 32) (body : List UInt8) (mac : BitVec 64) (A : Option Addr) (c : Nat) (w : World) (hB : Bytes w A c body) (hlen : body.length ≤ 2000) (hm : may ⟨6, dir, train, a, b, body, mac⟩ = true) :
  Calls Tryz.prog 184 #[.agg #[.int .i64 6, .int .i64 dir, .int .i64 train, q32 a, q32 b, .slice A body.length c, q64 mac]] w fun e w' => ∃ v, e = .returned v ∧ NewBytes w.heap.size (textB ⟨6, dir, train, a, b, body, mac⟩) v w' ∧ Below w.heap.size w w' := by
 obtain ⟨g1, g2, g3, g4, hsize⟩ : 0 ≤ train ∧ train < 16777216 ∧ 0 ≤ dir ∧ dir ≤ 1 ∧ (body.length = 1) := by
  have hM := may_iff.1 hm
  unfold MayP at hM
  simp only at hM
  obtain ⟨g1, g2, g3, g4, g5⟩ := hM
  exact ⟨g1, g2, g3, g4, by omega⟩
 have e : textB ⟨6, dir, train, a, b, body, mac⟩ = ([be 1 (2 * 6 + dir).toNat ++ be 3 train.toNat, be 4 b.toNat, body]).flatten := by
  skip
  simp [textB]
 rw [e]
 clear e
 have hhl : (be 1 (2 * 6 + dir).toNat ++ be 3 train.toNat).length = 4 := by simp [be_length]
 have hwh := fun W => word_head 6 dir train W (by omega) (by omega) g3 g4 g1 g2
 have hmay := fun W => may_k' 6 dir train a b body mac A c W (by omega)
 rw [hm] at hmay
 simp only [Int.reduceMul] at hwh hhl ⊢
 replace hsize := Lib.hid hsize
 go_enter Tryz.func184, Tryz.ntmps184
 go_wp2_with (first
  |(go_at_call 183; (with_reducible refine (hmay _).mono ?_); rintro e w1 ⟨rfl, hb⟩; obtain ⟨hc, _⟩ := bcell hb; have hz : w.heap.size < w1.heap.size := by have := hb.size; simp at this; omega)
  |(go_at_call 185; (with_reducible refine (hwh _).mono ?_); rintro e w2 ⟨gh, rfl, hv, hb2⟩; obtain ⟨hc2, _⟩ := bcell hb2; have hz2 : w.heap.size < w2.heap.size := by have := hb2.size; omega))
 have hb02 : Below w.heap.size w w2 := below_then (below_of_alloc hb) hb2
 have hB2 : Bytes w2 A c body := hB.below hb02
 apply wp_region_lex
 case hFl =>
  intro u
  simp only [List.map, fill, Act.put, List.setIfInBounds_toArray, List.set_cons_zero, List.set_cons_succ, Nat.reduceAdd, Nat.zero_add]
  rfl
 case hm => kernel_rfl
 case hB => kernel_rfl
 case hap => kernel_rfl
 iterate 3 (
  apply Lex.is
  ·
   (
    intro u w' hk hd
    simp [Waited, Region.binds, Is] at hd
    refine looked_want (by first | rfl | simp [Region.wanted, yielded, hd]) ?_
    intro K hK
    obtain ⟨hcR, _⟩ := bcell hk
    go_wp2_with (fail)
    try simp only [hd] at hK
    refine hK _ _ ?_ rfl
    first | exact Below.refl _ _ | exact hb3)
  )
 refine Lex.word (IsWord b.toNat) (fun _ _ _ h hb => h.grow hb) ?_ ?_
 ·
  (
   intro u w' hk hd
   simp [Waited, Region.binds, Is] at hd
   refine looked_want (by first | rfl | simp [Region.wanted, yielded, hd]) ?_
   intro K hK
   obtain ⟨hcR, _⟩ := bcell hk
   skip
   go_wp2_with (go_at_call 185; (with_reducible refine (word_w b _).mono ?_); rintro e w3 ⟨v3, rfl, hv3, hb3⟩)
   try simp only [hd] at hK
   exact hK _ _ hb3 hv3)
 iterate 2 (
  apply Lex.is
  ·
   (
    intro u w' hk hd
    simp [Waited, Region.binds, Is] at hd
    refine looked_want (by first | rfl | simp [Region.wanted, yielded, hd]) ?_
    intro K hK
    obtain ⟨hcR, _⟩ := bcell hk
    go_wp2_with (fail)
    try simp only [hd] at hK
    refine hK _ _ ?_ rfl
    first | exact Below.refl _ _ | exact hb3)
  )
 refine Lex.word (IsParts [be 1 (12 + dir).toNat ++ be 3 train.toNat, be 4 b.toNat, body]) (fun _ _ _ h hb => h.grow hb) ?_ ?_
 ·
  (
   intro u w' hk hd
   simp [Waited, Region.binds, Is] at hd
   refine looked_want (by first | rfl | simp [Region.wanted, yielded, hd]) ?_
   intro K hK
   obtain ⟨hcR, _⟩ := bcell hk
   obtain ⟨d0, ⟨g1', d1, hg1'⟩, d2⟩ := hd
   go_wp2_with (fail)
   try simp only [d0, d1, d2] at hK
   exact hK _ _ ((Below.refl _ _).alloc (Nat.le_refl _) _) ⟨_, _, rfl, Blk.new _ _ _, word4_is ((hv.below hk).alloc _) hhl, word4_is (hg1'.alloc _) (be_length _ _), ⟨_, _, rfl, (hB2.below hk).alloc _⟩, trivial⟩)
 refine Lex.word (NewBytes w2.heap.size ([be 1 (12 + dir).toNat ++ be 3 train.toNat, be 4 b.toNat, body]).flatten) (fun _ _ _ h hb => h.grow hb) ?_ ?_
 ·
  (
   intro u w' hk hd
   simp [Waited, Region.binds] at hd
   obtain ⟨⟨gp, vs, d0, hgp, hP⟩, _⟩ := hd
   refine looked_want (by first | rfl | simp [Region.wanted, yielded]) ?_
   intro K hK
   go_wp2_with (go_at_call 141; go_loud (refine (joined_is ([be 1 (12 + dir).toNat ++ be 3 train.toNat, be 4 b.toNat, body]) gp 3 vs _ rfl hgp hP (by simp) (by simp) (by simp [Lib.lens, be_length] <;> omega)).mono ?_); rintro e w3 ⟨v3, rfl, hv3, hb3⟩)
   try simp only [d0] at hK
   exact hK _ _ hb3 (hv3.mono hk.size))
 refine Lex.word (NewBytes w2.heap.size ([be 1 (12 + dir).toNat ++ be 3 train.toNat, be 4 b.toNat, body]).flatten) (fun _ _ _ h hb => h.grow hb) ?_ ?_
 ·
  (
   intro u w' hk hd
   simp [Waited, Region.binds] at hd
   refine looked_want (by first | rfl | simp [Region.wanted, yielded]) ?_
   intro K hK
   go_wp2_with fail
   exact hK _ _ (Below.refl _ _) (by first | simpa using hd | simpa using hd.1))
 apply Lex.nil
 intro u w' hk hd
 simp only [List.nil_append, List.cons_append] at hd
 have hlast := hd 8 _ rfl
 clear hd
 go_wp2_with fail
 go_ret
 exact ⟨_, rfl, hlast.mono (by have := hb02.size; omega), below_then hb02 hk⟩
set_option maxHeartbeats 4000000 in
theorem text_2 (dir train : Int) (a b : BitVec 32) (body : List UInt8) (mac : BitVec 64) (A : Option Addr) (c : Nat) (w : World) (hB : Bytes w A c body) (hlen : body.length ≤ 2000) (hm : may ⟨2, dir, train, a, b, body, mac⟩ = true) :
  Calls Tryz.prog 184 #[.agg #[.int .i64 2, .int .i64 dir, .int .i64 train, q32 a, q32 b, .slice A body.length c, q64 mac]] w fun e w' => ∃ v, e = .returned v ∧ NewBytes w.heap.size (textB ⟨2, dir, train, a, b, body, mac⟩) v w' ∧ Below w.heap.size w w' := by
 obtain ⟨g1, g2, g3, g4, hsize⟩ : 0 ≤ train ∧ train < 16777216 ∧ 0 ≤ dir ∧ dir ≤ 1 ∧ (body.length = 0) := by
  have hM := may_iff.1 hm
  unfold MayP at hM
  simp only at hM
  obtain ⟨g1, g2, g3, g4, g5⟩ := hM
  exact ⟨g1, g2, g3, g4, by omega⟩
 have e : textB ⟨2, dir, train, a, b, body, mac⟩ = ([be 1 (2 * 2 + dir).toNat ++ be 3 train.toNat, be 4 a.toNat, be 4 b.toNat]).flatten := by
  rw [List.eq_nil_of_length_eq_zero hsize]
  simp [textB]
 rw [e]
 clear e
 have hhl : (be 1 (2 * 2 + dir).toNat ++ be 3 train.toNat).length = 4 := by simp [be_length]
 have hwh := fun W => word_head 2 dir train W (by omega) (by omega) g3 g4 g1 g2
 have hmay := fun W => may_k' 2 dir train a b body mac A c W (by omega)
 rw [hm] at hmay
 simp only [Int.reduceMul] at hwh hhl ⊢
 replace hsize := Lib.hid hsize
 go_enter Tryz.func184, Tryz.ntmps184
 go_wp2_with (first
  |(go_at_call 183; (with_reducible refine (hmay _).mono ?_); rintro e w1 ⟨rfl, hb⟩; obtain ⟨hc, _⟩ := bcell hb; have hz : w.heap.size < w1.heap.size := by have := hb.size; simp at this; omega)
  |(go_at_call 185; (with_reducible refine (hwh _).mono ?_); rintro e w2 ⟨gh, rfl, hv, hb2⟩; obtain ⟨hc2, _⟩ := bcell hb2; have hz2 : w.heap.size < w2.heap.size := by have := hb2.size; omega))
 have hb02 : Below w.heap.size w w2 := below_then (below_of_alloc hb) hb2
 have hB2 : Bytes w2 A c body := hB.below hb02
 apply wp_region_lex
 case hFl =>
  intro u
  simp only [List.map, fill, Act.put, List.setIfInBounds_toArray, List.set_cons_zero, List.set_cons_succ, Nat.reduceAdd, Nat.zero_add]
  rfl
 case hm => kernel_rfl
 case hB => kernel_rfl
 case hap => kernel_rfl
 iterate 3 (
  apply Lex.is
  ·
   (
    intro u w' hk hd
    simp [Waited, Region.binds, Is] at hd
    refine looked_want (by first | rfl | simp [Region.wanted, yielded, hd]) ?_
    intro K hK
    obtain ⟨hcR, _⟩ := bcell hk
    go_wp2_with (fail)
    try simp only [hd] at hK
    refine hK _ _ ?_ rfl
    first | exact Below.refl _ _ | exact hb3)
  )
 refine Lex.word (IsWord a.toNat) (fun _ _ _ h hb => h.grow hb) ?_ ?_
 ·
  (
   intro u w' hk hd
   simp [Waited, Region.binds, Is] at hd
   refine looked_want (by first | rfl | simp [Region.wanted, yielded, hd]) ?_
   intro K hK
   obtain ⟨hcR, _⟩ := bcell hk
   skip
   go_wp2_with (go_at_call 185; (with_reducible refine (word_w a _).mono ?_); rintro e w3 ⟨v3, rfl, hv3, hb3⟩)
   try simp only [hd] at hK
   exact hK _ _ hb3 hv3)
 iterate 2 (
  apply Lex.is
  ·
   (
    intro u w' hk hd
    simp [Waited, Region.binds, Is] at hd
    refine looked_want (by first | rfl | simp [Region.wanted, yielded, hd]) ?_
    intro K hK
    obtain ⟨hcR, _⟩ := bcell hk
    go_wp2_with (fail)
    try simp only [hd] at hK
    refine hK _ _ ?_ rfl
    first | exact Below.refl _ _ | exact hb3)
  )
 refine Lex.word (IsWord b.toNat) (fun _ _ _ h hb => h.grow hb) ?_ ?_
 ·
  (
   intro u w' hk hd
   simp [Waited, Region.binds, Is] at hd
   refine looked_want (by first | rfl | simp [Region.wanted, yielded, hd]) ?_
   intro K hK
   obtain ⟨hcR, _⟩ := bcell hk
   skip
   go_wp2_with (go_at_call 185; (with_reducible refine (word_w b _).mono ?_); rintro e w3 ⟨v3, rfl, hv3, hb3⟩)
   try simp only [hd] at hK
   exact hK _ _ hb3 hv3)
 refine Lex.word (IsParts [be 1 (4 + dir).toNat ++ be 3 train.toNat, be 4 a.toNat, be 4 b.toNat]) (fun _ _ _ h hb => h.grow hb) ?_ ?_
 ·
  (
   intro u w' hk hd
   simp [Waited, Region.binds, Is] at hd
   refine looked_want (by first | rfl | simp [Region.wanted, yielded, hd]) ?_
   intro K hK
   obtain ⟨hcR, _⟩ := bcell hk
   obtain ⟨d0, ⟨g1', d1, hg1'⟩, ⟨g2', d2, hg2'⟩⟩ := hd
   go_wp2_with (fail)
   try simp only [d0, d1, d2] at hK
   exact hK _ _ ((Below.refl _ _).alloc (Nat.le_refl _) _) ⟨_, _, rfl, Blk.new _ _ _, word4_is ((hv.below hk).alloc _) hhl, word4_is (hg1'.alloc _) (be_length _ _), word4_is (hg2'.alloc _) (be_length _ _), trivial⟩)
 refine Lex.word (NewBytes w2.heap.size ([be 1 (4 + dir).toNat ++ be 3 train.toNat, be 4 a.toNat, be 4 b.toNat]).flatten) (fun _ _ _ h hb => h.grow hb) ?_ ?_
 ·
  (
   intro u w' hk hd
   simp [Waited, Region.binds] at hd
   obtain ⟨⟨gp, vs, d0, hgp, hP⟩, _⟩ := hd
   refine looked_want (by first | rfl | simp [Region.wanted, yielded]) ?_
   intro K hK
   go_wp2_with (go_at_call 141; go_loud (refine (joined_is ([be 1 (4 + dir).toNat ++ be 3 train.toNat, be 4 a.toNat, be 4 b.toNat]) gp 3 vs _ rfl hgp hP (by simp) (by simp) (by simp [Lib.lens, be_length] <;> omega)).mono ?_); rintro e w3 ⟨v3, rfl, hv3, hb3⟩)
   try simp only [d0] at hK
   exact hK _ _ hb3 (hv3.mono hk.size))
 refine Lex.word (NewBytes w2.heap.size ([be 1 (4 + dir).toNat ++ be 3 train.toNat, be 4 a.toNat, be 4 b.toNat]).flatten) (fun _ _ _ h hb => h.grow hb) ?_ ?_
 ·
  (
   intro u w' hk hd
   simp [Waited, Region.binds] at hd
   refine looked_want (by first | rfl | simp [Region.wanted, yielded]) ?_
   intro K hK
   go_wp2_with fail
   exact hK _ _ (Below.refl _ _) (by first | simpa using hd | simpa using hd.1))
 apply Lex.nil
 intro u w' hk hd
 simp only [List.nil_append, List.cons_append] at hd
 have hlast := hd 9 _ rfl
 clear hd
 go_wp2_with fail
 go_ret
 exact ⟨_, rfl, hlast.mono (by have := hb02.size; omega), below_then hb02 hk⟩
set_option maxHeartbeats 4000000 in
theorem text_3 (dir train : Int) (a b : BitVec 32) (body : List UInt8) (mac : BitVec 64) (A : Option Addr) (c : Nat) (w : World) (hB : Bytes w A c body) (hlen : body.length ≤ 2000) (hm : may ⟨3, dir, train, a, b, body, mac⟩ = true) :
  Calls Tryz.prog 184 #[.agg #[.int .i64 3, .int .i64 dir, .int .i64 train, q32 a, q32 b, .slice A body.length c, q64 mac]] w fun e w' => ∃ v, e = .returned v ∧ NewBytes w.heap.size (textB ⟨3, dir, train, a, b, body, mac⟩) v w' ∧ Below w.heap.size w w' := by
 obtain ⟨g1, g2, g3, g4, hsize⟩ : 0 ≤ train ∧ train < 16777216 ∧ 0 ≤ dir ∧ dir ≤ 1 ∧ (body.length = 0) := by
  have hM := may_iff.1 hm
  unfold MayP at hM
  simp only at hM
  obtain ⟨g1, g2, g3, g4, g5⟩ := hM
  exact ⟨g1, g2, g3, g4, by omega⟩
 have e : textB ⟨3, dir, train, a, b, body, mac⟩ = ([be 1 (2 * 3 + dir).toNat ++ be 3 train.toNat, be 4 a.toNat, be 4 b.toNat]).flatten := by
  rw [List.eq_nil_of_length_eq_zero hsize]
  simp [textB]
 rw [e]
 clear e
 have hhl : (be 1 (2 * 3 + dir).toNat ++ be 3 train.toNat).length = 4 := by simp [be_length]
 have hwh := fun W => word_head 3 dir train W (by omega) (by omega) g3 g4 g1 g2
 have hmay := fun W => may_k' 3 dir train a b body mac A c W (by omega)
 rw [hm] at hmay
 simp only [Int.reduceMul] at hwh hhl ⊢
 replace hsize := Lib.hid hsize
 go_enter Tryz.func184, Tryz.ntmps184
 go_wp2_with (first
  |(go_at_call 183; (with_reducible refine (hmay _).mono ?_); rintro e w1 ⟨rfl, hb⟩; obtain ⟨hc, _⟩ := bcell hb; have hz : w.heap.size < w1.heap.size := by have := hb.size; simp at this; omega)
  |(go_at_call 185; (with_reducible refine (hwh _).mono ?_); rintro e w2 ⟨gh, rfl, hv, hb2⟩; obtain ⟨hc2, _⟩ := bcell hb2; have hz2 : w.heap.size < w2.heap.size := by have := hb2.size; omega))
 have hb02 : Below w.heap.size w w2 := below_then (below_of_alloc hb) hb2
 have hB2 : Bytes w2 A c body := hB.below hb02
 apply wp_region_lex
 case hFl =>
  intro u
  simp only [List.map, fill, Act.put, List.setIfInBounds_toArray, List.set_cons_zero, List.set_cons_succ, Nat.reduceAdd, Nat.zero_add]
  rfl
 case hm => kernel_rfl
 case hB => kernel_rfl
 case hap => kernel_rfl
 iterate 3 (
  apply Lex.is
  ·
   (
    intro u w' hk hd
    simp [Waited, Region.binds, Is] at hd
    refine looked_want (by first | rfl | simp [Region.wanted, yielded, hd]) ?_
    intro K hK
    obtain ⟨hcR, _⟩ := bcell hk
    go_wp2_with (fail)
    try simp only [hd] at hK
    refine hK _ _ ?_ rfl
    first | exact Below.refl _ _ | exact hb3)
  )
 refine Lex.word (IsWord a.toNat) (fun _ _ _ h hb => h.grow hb) ?_ ?_
 ·
  (
   intro u w' hk hd
   simp [Waited, Region.binds, Is] at hd
   refine looked_want (by first | rfl | simp [Region.wanted, yielded, hd]) ?_
   intro K hK
   obtain ⟨hcR, _⟩ := bcell hk
   skip
   go_wp2_with (go_at_call 185; (with_reducible refine (word_w a _).mono ?_); rintro e w3 ⟨v3, rfl, hv3, hb3⟩)
   try simp only [hd] at hK
   exact hK _ _ hb3 hv3)
 iterate 2 (
  apply Lex.is
  ·
   (
    intro u w' hk hd
    simp [Waited, Region.binds, Is] at hd
    refine looked_want (by first | rfl | simp [Region.wanted, yielded, hd]) ?_
    intro K hK
    obtain ⟨hcR, _⟩ := bcell hk
    go_wp2_with (fail)
    try simp only [hd] at hK
    refine hK _ _ ?_ rfl
    first | exact Below.refl _ _ | exact hb3)
  )
 refine Lex.word (IsWord b.toNat) (fun _ _ _ h hb => h.grow hb) ?_ ?_
 ·
  (
   intro u w' hk hd
   simp [Waited, Region.binds, Is] at hd
   refine looked_want (by first | rfl | simp [Region.wanted, yielded, hd]) ?_
   intro K hK
   obtain ⟨hcR, _⟩ := bcell hk
   skip
   go_wp2_with (go_at_call 185; (with_reducible refine (word_w b _).mono ?_); rintro e w3 ⟨v3, rfl, hv3, hb3⟩)
   try simp only [hd] at hK
   exact hK _ _ hb3 hv3)
 refine Lex.word (IsParts [be 1 (6 + dir).toNat ++ be 3 train.toNat, be 4 a.toNat, be 4 b.toNat]) (fun _ _ _ h hb => h.grow hb) ?_ ?_
 ·
  (
   intro u w' hk hd
   simp [Waited, Region.binds, Is] at hd
   refine looked_want (by first | rfl | simp [Region.wanted, yielded, hd]) ?_
   intro K hK
   obtain ⟨hcR, _⟩ := bcell hk
   obtain ⟨d0, ⟨g1', d1, hg1'⟩, ⟨g2', d2, hg2'⟩⟩ := hd
   go_wp2_with (fail)
   try simp only [d0, d1, d2] at hK
   exact hK _ _ ((Below.refl _ _).alloc (Nat.le_refl _) _) ⟨_, _, rfl, Blk.new _ _ _, word4_is ((hv.below hk).alloc _) hhl, word4_is (hg1'.alloc _) (be_length _ _), word4_is (hg2'.alloc _) (be_length _ _), trivial⟩)
 refine Lex.word (NewBytes w2.heap.size ([be 1 (6 + dir).toNat ++ be 3 train.toNat, be 4 a.toNat, be 4 b.toNat]).flatten) (fun _ _ _ h hb => h.grow hb) ?_ ?_
 ·
  (
   intro u w' hk hd
   simp [Waited, Region.binds] at hd
   obtain ⟨⟨gp, vs, d0, hgp, hP⟩, _⟩ := hd
   refine looked_want (by first | rfl | simp [Region.wanted, yielded]) ?_
   intro K hK
   go_wp2_with (go_at_call 141; go_loud (refine (joined_is ([be 1 (6 + dir).toNat ++ be 3 train.toNat, be 4 a.toNat, be 4 b.toNat]) gp 3 vs _ rfl hgp hP (by simp) (by simp) (by simp [Lib.lens, be_length] <;> omega)).mono ?_); rintro e w3 ⟨v3, rfl, hv3, hb3⟩)
   try simp only [d0] at hK
   exact hK _ _ hb3 (hv3.mono hk.size))
 refine Lex.word (NewBytes w2.heap.size ([be 1 (6 + dir).toNat ++ be 3 train.toNat, be 4 a.toNat, be 4 b.toNat]).flatten) (fun _ _ _ h hb => h.grow hb) ?_ ?_
 ·
  (
   intro u w' hk hd
   simp [Waited, Region.binds] at hd
   refine looked_want (by first | rfl | simp [Region.wanted, yielded]) ?_
   intro K hK
   go_wp2_with fail
   exact hK _ _ (Below.refl _ _) (by first | simpa using hd | simpa using hd.1))
 apply Lex.nil
 intro u w' hk hd
 simp only [List.nil_append, List.cons_append] at hd
 have hlast := hd 9 _ rfl
 clear hd
 go_wp2_with fail
 go_ret
 exact ⟨_, rfl, hlast.mono (by have := hb02.size; omega), below_then hb02 hk⟩
def IsTail (n : Nat) : Value → World → Prop := fun v w => ∃ g, v = .slice (some ⟨g, 2, none⟩) 2 2 ∧ Bytes w (some ⟨g, 2, none⟩) 2 (be 2 n)
theorem IsTail.grow {n : Nat} {v : Value} {w w' : World} (h : IsTail n v w) (hb : Below w.heap.size w w') : IsTail n v w' := by
 obtain ⟨g, e, hB⟩ := h
 exact ⟨g, e, hB.below hb⟩
theorem len_be (n : Nat) (h : n < 65536) : be 4 (BitVec.ofNat 32 n).toNat = be 2 0 ++ be 2 n := by
 have e : (BitVec.ofNat 32 n).toNat = n := by simp; omega
 rw [e, show (4 : Nat) = 2 + 2 from rfl, be_add]
 have h0 : n / 256 ^ 2 = 0 := by simp; omega
 rw [h0]
theorem word_tail {w : World} {g n : Nat} (h : Bytes w (some ⟨g, 0, none⟩) 4 (be 4 (BitVec.ofNat 32 n).toNat)) (hn : n < 65536) : Bytes w (some ⟨g, 2, none⟩) 2 (be 2 n) := by
 refine ⟨fun h0 => ?_, by rw [be_length]; exact Nat.le_refl _, by decide⟩
 obtain ⟨b, off, e, hlt, hc⟩ := h.row (by rw [cellsOf_length, be_length]; decide)
 simp only [Option.some.injEq, Addr.mk.injEq, and_true] at e
 obtain ⟨rfl, rfl⟩ := e
 refine ⟨g, 2, rfl, hlt, fun j u hu => ?_⟩
 have := hc (2 + j) u (by rw [len_be n hn, cellsOf_append, List.getElem?_append_right (by rw [cellsOf_length, be_length]; omega), cellsOf_length, be_length, Nat.add_sub_cancel_left]; exact hu)
 rwa [Nat.zero_add] at this
set_option maxHeartbeats 4000000 in
theorem text_5 (dir train : Int) (a b : BitVec 32) (body : List UInt8) (mac : BitVec 64) (A : Option Addr) (c : Nat) (w : World) (hB : Bytes w A c body) (hlen : body.length ≤ 2000) (hm : may ⟨5, dir, train, a, b, body, mac⟩ = true) :
  Calls Tryz.prog 184 #[.agg #[.int .i64 5, .int .i64 dir, .int .i64 train, q32 a, q32 b, .slice A body.length c, q64 mac]] w fun e w' => ∃ v, e = .returned v ∧ NewBytes w.heap.size (textB ⟨5, dir, train, a, b, body, mac⟩) v w' ∧ Below w.heap.size w w' := by
 obtain ⟨g1, g2, g3, g4, hsize⟩ : 0 ≤ train ∧ train < 16777216 ∧ 0 ≤ dir ∧ dir ≤ 1 ∧ (1 ≤ body.length ∧ body.length ≤ 1023) := by
  have hM := may_iff.1 hm
  unfold MayP at hM
  simp only at hM
  obtain ⟨g1, g2, g3, g4, g5⟩ := hM
  exact ⟨g1, g2, g3, g4, by omega⟩
 have e : textB ⟨5, dir, train, a, b, body, mac⟩ = ([be 1 (2 * 5 + dir).toNat ++ be 3 train.toNat, be 4 b.toNat, be 2 body.length, body]).flatten := by
  skip
  simp [textB]
 rw [e]
 clear e
 have hhl : (be 1 (2 * 5 + dir).toNat ++ be 3 train.toNat).length = 4 := by simp [be_length]
 have hwh := fun W => word_head 5 dir train W (by omega) (by omega) g3 g4 g1 g2
 have hmay := fun W => may_k' 5 dir train a b body mac A c W (by omega)
 rw [hm] at hmay
 simp only [Int.reduceMul] at hwh hhl ⊢
 replace hsize := Lib.hid hsize
 go_enter Tryz.func184, Tryz.ntmps184
 go_wp2_with (first
  |(go_at_call 183; (with_reducible refine (hmay _).mono ?_); rintro e w1 ⟨rfl, hb⟩; obtain ⟨hc, _⟩ := bcell hb; have hz : w.heap.size < w1.heap.size := by have := hb.size; simp at this; omega)
  |(go_at_call 185; (with_reducible refine (hwh _).mono ?_); rintro e w2 ⟨gh, rfl, hv, hb2⟩; obtain ⟨hc2, _⟩ := bcell hb2; have hz2 : w.heap.size < w2.heap.size := by have := hb2.size; omega))
 have hb02 : Below w.heap.size w w2 := below_then (below_of_alloc hb) hb2
 have hB2 : Bytes w2 A c body := hB.below hb02
 apply wp_region_lex
 case hFl =>
  intro u
  simp only [List.map, fill, Act.put, List.setIfInBounds_toArray, List.set_cons_zero, List.set_cons_succ, Nat.reduceAdd, Nat.zero_add]
  rfl
 case hm => kernel_rfl
 case hB => kernel_rfl
 case hap => kernel_rfl
 iterate 3 (
  apply Lex.is
  ·
   (
    intro u w' hk hd
    simp [Waited, Region.binds, Is] at hd
    refine looked_want (by first | rfl | simp [Region.wanted, yielded, hd]) ?_
    intro K hK
    obtain ⟨hcR, _⟩ := bcell hk
    go_wp2_with (fail)
    try simp only [hd] at hK
    refine hK _ _ ?_ rfl
    first | exact Below.refl _ _ | exact hb3)
  )
 refine Lex.word (IsWord b.toNat) (fun _ _ _ h hb => h.grow hb) ?_ ?_
 ·
  (
   intro u w' hk hd
   simp [Waited, Region.binds, Is] at hd
   refine looked_want (by first | rfl | simp [Region.wanted, yielded, hd]) ?_
   intro K hK
   obtain ⟨hcR, _⟩ := bcell hk
   skip
   go_wp2_with (go_at_call 185; (with_reducible refine (word_w b _).mono ?_); rintro e w3 ⟨v3, rfl, hv3, hb3⟩)
   try simp only [hd] at hK
   exact hK _ _ hb3 hv3)
 iterate 4 (
  apply Lex.is
  ·
   (
    intro u w' hk hd
    simp [Waited, Region.binds, Is] at hd
    refine looked_want (by first | rfl | simp [Region.wanted, yielded, hd]) ?_
    intro K hK
    obtain ⟨hcR, _⟩ := bcell hk
    go_wp2_with (fail)
    try simp only [hd] at hK
    refine hK _ _ ?_ rfl
    first | exact Below.refl _ _ | exact hb3)
  )
 refine Lex.word (IsWord (BitVec.ofNat 32 body.length).toNat) (fun _ _ _ h hb => h.grow hb) ?_ ?_
 ·
  (
   intro u w' hk hd
   simp [Waited, Region.binds, Is] at hd
   refine looked_want (by first | rfl | simp [Region.wanted, yielded, hd]) ?_
   intro K hK
   obtain ⟨hcR, _⟩ := bcell hk
   skip
   go_wp2_with (go_at_call 185; (with_reducible refine (word_w (BitVec.ofNat 32 body.length) _).mono ?_); rintro e w3 ⟨v3, rfl, hv3, hb3⟩)
   try simp only [hd] at hK
   exact hK _ _ hb3 hv3)
 refine Lex.word (IsTail body.length) (fun _ _ _ h hb => h.grow hb) ?_ ?_
 ·
  (
   intro u w' hk hd
   simp [Waited, Region.binds, Is] at hd
   refine looked_want (by first | rfl | simp [Region.wanted, yielded, hd]) ?_
   intro K hK
   obtain ⟨hcR, _⟩ := bcell hk
   obtain ⟨g1', d1, hg1'⟩ := hd
   go_wp2_with (fail)
   try simp only [d1] at hK
   exact hK _ _ (Below.refl _ _) ⟨g1', rfl, word_tail hg1' (by omega)⟩)
 iterate 2 (
  apply Lex.is
  ·
   (
    intro u w' hk hd
    simp [Waited, Region.binds, Is] at hd
    refine looked_want (by first | rfl | simp [Region.wanted, yielded, hd]) ?_
    intro K hK
    obtain ⟨hcR, _⟩ := bcell hk
    go_wp2_with (fail)
    try simp only [hd] at hK
    refine hK _ _ ?_ rfl
    first | exact Below.refl _ _ | exact hb3)
  )
 refine Lex.word (IsParts [be 1 (10 + dir).toNat ++ be 3 train.toNat, be 4 b.toNat, be 2 body.length, body]) (fun _ _ _ h hb => h.grow hb) ?_ ?_
 ·
  (
   intro u w' hk hd
   simp [Waited, Region.binds, Is] at hd
   refine looked_want (by first | rfl | simp [Region.wanted, yielded, hd]) ?_
   intro K hK
   obtain ⟨hcR, _⟩ := bcell hk
   obtain ⟨d0, ⟨g1', d1, hg1'⟩, ⟨g2', d2, hg2'⟩, d3⟩ := hd
   go_wp2_with (fail)
   try simp only [d0, d1, d2, d3] at hK
   exact hK _ _ ((Below.refl _ _).alloc (Nat.le_refl _) _) ⟨_, _, rfl, Blk.new _ _ _, word4_is ((hv.below hk).alloc _) hhl, word4_is (hg1'.alloc _) (be_length _ _), ⟨_, 2, rfl, hg2'.alloc _⟩, ⟨_, _, rfl, (hB2.below hk).alloc _⟩, trivial⟩)
 refine Lex.word (NewBytes w2.heap.size ([be 1 (10 + dir).toNat ++ be 3 train.toNat, be 4 b.toNat, be 2 body.length, body]).flatten) (fun _ _ _ h hb => h.grow hb) ?_ ?_
 ·
  (
   intro u w' hk hd
   simp [Waited, Region.binds] at hd
   obtain ⟨⟨gp, vs, d0, hgp, hP⟩, _⟩ := hd
   refine looked_want (by first | rfl | simp [Region.wanted, yielded]) ?_
   intro K hK
   go_wp2_with (go_at_call 141; go_loud (refine (joined_is ([be 1 (10 + dir).toNat ++ be 3 train.toNat, be 4 b.toNat, be 2 body.length, body]) gp 4 vs _ rfl hgp hP (by simp) (by simp) (by simp [Lib.lens, be_length] <;> omega)).mono ?_); rintro e w3 ⟨v3, rfl, hv3, hb3⟩)
   try simp only [d0] at hK
   exact hK _ _ hb3 (hv3.mono hk.size))
 refine Lex.word (NewBytes w2.heap.size ([be 1 (10 + dir).toNat ++ be 3 train.toNat, be 4 b.toNat, be 2 body.length, body]).flatten) (fun _ _ _ h hb => h.grow hb) ?_ ?_
 ·
  (
   intro u w' hk hd
   simp [Waited, Region.binds] at hd
   refine looked_want (by first | rfl | simp [Region.wanted, yielded]) ?_
   intro K hK
   go_wp2_with fail
   exact hK _ _ (Below.refl _ _) (by first | simpa using hd | simpa using hd.1))
 apply Lex.nil
 intro u w' hk hd
 simp only [List.nil_append, List.cons_append] at hd
 have hlast := hd 14 _ rfl
 clear hd
 go_wp2_with fail
 go_ret
 exact ⟨_, rfl, hlast.mono (by have := hb02.size; omega), below_then hb02 hk⟩
set_option maxHeartbeats 1000000 in
theorem text_k (p : P7) (A : Option Addr) (n c : Nat) (w : World) (hn : n = p.body.length) (hB : Bytes w A c p.body) (hlen : p.body.length ≤ 2000) :
  Calls Tryz.prog 184 #[.agg #[.int .i64 p.kind, .int .i64 p.dir, .int .i64 p.train, q32 p.a, q32 p.b, .slice A n c, q64 p.mac]] w fun e w' => ∃ v, e = .returned v ∧ NewBytes w.heap.size (text p) v w' ∧ Below w.heap.size w w' := by
 subst hn
 obtain ⟨kind, dir, train, a, b, body, mac⟩ := p
 simp only at hlen hB ⊢
 cases hm : may ⟨kind, dir, train, a, b, body, mac⟩ with
 | false =>
  have ht : text ⟨kind, dir, train, a, b, body, mac⟩ = [] := by simp [text, hm]
  have hmay := fun W => may_k' kind dir train a b body mac A c W (by omega)
  rw [hm] at hmay
  rw [ht]
  clear hm ht
  go_enter Tryz.func184, Tryz.ntmps184
  go_wp2_with (go_at_call 183; (with_reducible refine (hmay _).mono ?_); rintro e w1 ⟨rfl, hb⟩)
  go_ret
  exact ⟨_, rfl, ⟨none, 0, rfl, Bytes.nil _, fun h => absurd h (by simp)⟩, below_of_alloc hb⟩
 | true =>
  have ht : text ⟨kind, dir, train, a, b, body, mac⟩ = textB ⟨kind, dir, train, a, b, body, mac⟩ := by simp [text, hm]
  rw [ht]
  clear ht
  have hM := may_iff.1 hm
  unfold MayP at hM
  rcases hM.2.2.2.2 with ⟨rfl, _⟩ | ⟨rfl, _⟩ | ⟨rfl, _⟩ | ⟨rfl, _⟩ | ⟨rfl, _⟩
  ·
   exact text_1 dir train a b body mac A c w hB hlen hm
  ·
   exact text_2 dir train a b body mac A c w hB hlen hm
  ·
   exact text_3 dir train a b body mac A c w hB hlen hm
  ·
   exact text_5 dir train a b body mac A c w hB hlen hm
  ·
   exact text_6 dir train a b body mac A c w hB hlen hm
end Go.Proofs.YtkaggddmhjifjaaGreatDoor
