/- Texts in one: PduEnc RegionC Gone Has ChainA. -/
import Derived.Test.YtkaggddmhjifjaaGreatDoorK22
import Derived.Test.YtkaggddmhjifjaaGreatDoorK18
import Derived.Test.YtkaggddmhjifjaaGreatDoorK06
import Derived.Test.YtkaggddmhjifjaaGreatDoorK20
import Derived.Shelf.SlicesQ.Contains
import Derived.Shelf.SlicesQ.Index
import Derived.Test.YtkaggddmhjifjaaGreatDoorK08
set_option linter.unusedSimpArgs false
set_option linter.unusedVariables false
set_option maxRecDepth 16000
namespace Go.Proofs.YtkaggddmhjifjaaGreatDoor
open Go.RowKit Go.Shelf
theorem text_k' (kind dir train : Int) (a b : BitVec 32) (body : List UInt8) (mac : BitVec 64) (A : Option Addr) (c : Nat) (w : World) (hB : Bytes w A c body) (hlen : body.length ≤ 2000) :
  Calls Tryz.prog 184 #[.agg #[.int .i64 kind, .int .i64 dir, .int .i64 train, q32 a, q32 b, .slice A body.length c, q64 mac]] w fun e w' => ∃ v, e = .returned v ∧ NewBytes w.heap.size (text ⟨kind, dir, train, a, b, body, mac⟩) v w' ∧ Below w.heap.size w w' :=
 text_k ⟨kind, dir, train, a, b, body, mac⟩ A body.length c w rfl hB hlen
def hi32 (x : BitVec 64) : BitVec 32 := (x >>> 32).setWidth 32
def lo32 (x : BitVec 64) : BitVec 32 := x.setWidth 32
theorem low_32 (x : BitVec 64) : (x.setWidth 32).toNat = x.toNat % 4294967296 := by simp
theorem be8 (x : BitVec 64) : be 4 (hi32 x).toNat ++ be 4 (lo32 x).toNat = be 8 x.toNat := by
 unfold hi32 lo32
 have h := x.isLt
 rw [show (8 : Nat) = 4 + 4 from rfl, be_add, ← be_mod 4 x.toNat, low_32, low_32, BitVec.toNat_ushiftRight, Nat.shiftRight_eq_div_pow]
 have e : x.toNat / 2 ^ 32 % 4294967296 = x.toNat / 256 ^ 4 := by simp; omega
 rw [e]
theorem textB_len (p : P7) : (textB p).length ≤ 14 + p.body.length := by
 unfold textB
 simp only [List.length_append, be_length]
 have h1 : (if p.kind ≤ 3 then be 4 p.a.toNat else []).length ≤ 4 := by split <;> simp [be_length]
 have h2 : (if 2 ≤ p.kind then be 4 p.b.toNat else []).length ≤ 4 := by split <;> simp [be_length]
 have h3 : (if p.kind = 5 then be 2 p.body.length else []).length ≤ 2 := by split <;> simp [be_length]
 omega
theorem NewBytes.nil {base : Nat} {w : World} : NewBytes base [] (.slice none 0 0) w := ⟨none, 0, rfl, Bytes.nil _, fun h => absurd h (by simp)⟩
theorem enc_no (kind dir train : Int) (a b : BitVec 32) (body : List UInt8) (mac : BitVec 64) (A : Option Addr) (c : Nat) (w : World) (hlen : body.length ≤ 2000) (hm : may ⟨kind, dir, train, a, b, body, mac⟩ = false) :
  Calls Tryz.prog 139 #[.agg #[.int .i64 kind, .int .i64 dir, .int .i64 train, q32 a, q32 b, .slice A body.length c, q64 mac]] w fun e w' => e = .returned (.tuple #[.slice none 0 0, .int .i64 1]) ∧ Below w.heap.size w w' := by
 have hmay := fun W => may_k' kind dir train a b body mac A c W (by omega)
 rw [hm] at hmay
 clear hm
 go_enter Tryz.func139, Tryz.ntmps139
 go_wp2_with (first
  |(go_at_call 183; (with_reducible refine (hmay _).mono ?_); rintro e w1 ⟨rfl, hb⟩))
 go_ret2
 exact ⟨rfl, below_of_alloc hb⟩
theorem enc_1 (dir train : Int) (a b : BitVec 32) (body : List UInt8) (mac : BitVec 64) (A : Option Addr) (c : Nat) (w : World) (hB : Bytes w A c body) (hlen : body.length ≤ 2000) (hm : may ⟨1, dir, train, a, b, body, mac⟩ = true) :
  Calls Tryz.prog 139 #[.agg #[.int .i64 1, .int .i64 dir, .int .i64 train, q32 a, q32 b, .slice A body.length c, q64 mac]] w fun e w' => ∃ v, e = .returned (.tuple #[v, .int .i64 0]) ∧ NewBytes w.heap.size (enc ⟨1, dir, train, a, b, body, mac⟩) v w' ∧ Below w.heap.size w w' := by
 have e : enc ⟨1, dir, train, a, b, body, mac⟩ = text ⟨1, dir, train, a, b, body, mac⟩ := by simp [enc, text, hm]
 rw [e]
 clear e
 have hmay := fun W => may_k' 1 dir train a b body mac A c W (by omega)
 have htext := fun W (h : Bytes W A c body) => text_k' 1 dir train a b body mac A c W h hlen
 rw [hm] at hmay
 clear hm
 go_enter Tryz.func139, Tryz.ntmps139
 go_wp2_with (first
  |(go_at_call 183; (with_reducible refine (hmay _).mono ?_); rintro e w1 ⟨rfl, hb⟩; obtain ⟨hc, _⟩ := bcell hb; have hz : w.heap.size < w1.heap.size := by have := hb.size; simp at this; omega)
  |(go_at_call 184; (with_reducible refine (htext _ (hB.below (below_of_alloc hb))).mono ?_); rintro e w2 ⟨v, rfl, hv, hb2⟩))
 go_ret2
 exact ⟨_, rfl, hv.mono (by omega), below_then (below_of_alloc hb) hb2⟩
set_option maxHeartbeats 4000000 in
theorem enc_2 (kind dir train : Int) (a b : BitVec 32) (body : List UInt8) (mac : BitVec 64) (A : Option Addr) (c : Nat) (w : World) (hB : Bytes w A c body) (hlen : body.length ≤ 2000) (hm : may ⟨kind, dir, train, a, b, body, mac⟩ = true) (hk : kind ≠ 1) :
  Calls Tryz.prog 139 #[.agg #[.int .i64 kind, .int .i64 dir, .int .i64 train, q32 a, q32 b, .slice A body.length c, q64 mac]] w fun e w' => ∃ v, e = .returned (.tuple #[v, .int .i64 0]) ∧ NewBytes w.heap.size (enc ⟨kind, dir, train, a, b, body, mac⟩) v w' ∧ Below w.heap.size w w' := by
 have e : enc ⟨kind, dir, train, a, b, body, mac⟩ = [text ⟨kind, dir, train, a, b, body, mac⟩, be 4 (hi32 mac).toNat, be 4 (lo32 mac).toNat].flatten := by
  have h1 : 1 < kind := by have := may_iff.1 hm; unfold MayP at this; simp only at this; omega
  simp only [List.flatten_cons, List.flatten_nil, List.append_nil]
  rw [be8]
  simp [enc, text, hm, h1]
 rw [e]
 clear e
 have hmay := fun W => may_k' kind dir train a b body mac A c W (by omega)
 have htext := fun W (h : Bytes W A c body) => text_k' kind dir train a b body mac A c W h hlen
 have hT : (text ⟨kind, dir, train, a, b, body, mac⟩).length ≤ 2014 := by
  have := textB_len ⟨kind, dir, train, a, b, body, mac⟩
  simp [text, hm]
  simp at this
  omega
 rw [hm] at hmay
 clear hm
 generalize hTx : text ⟨kind, dir, train, a, b, body, mac⟩ = T at *
 clear hTx
 replace hlen := Lib.hid hlen
 replace hT := Lib.hid hT
 go_enter Tryz.func139, Tryz.ntmps139
 go_wp2_with (first
  |(go_at_call 183; (with_reducible refine (hmay _).mono ?_); rintro e w1 ⟨rfl, hb⟩; obtain ⟨hc, _⟩ := bcell hb; have hz : w.heap.size < w1.heap.size := by have := hb.size; simp at this; omega))
 have hb01 := below_of_alloc hb
 have hB1 : Bytes w1 A c body := hB.below hb01
 have hk1 : (kind == 1) = false := by simpa using hk
 simp only [hk1]
 apply wp_region_lex
 case hFl =>
  intro u
  simp only [List.map, fill, Act.put, List.setIfInBounds_toArray, List.set_cons_zero, List.set_cons_succ, Nat.reduceAdd, Nat.zero_add]
  rfl
 case hm => kernel_rfl
 case hB => kernel_rfl
 case hap => kernel_rfl
 apply Lex.is
 ·
  (
   intro u w' hk hd
   simp [Waited, Region.binds, Is] at hd
   refine looked_want (by first | rfl | simp [Region.wanted, yielded, hd]) ?_
   intro K hK
   obtain ⟨hcR, _⟩ := bcell hk
   go_wp2_with (fail)
   try simp only [hd] at hK
   refine hK _ _ ?_ rfl
   first | exact Below.refl _ _ | exact hb3)
 refine Lex.word (NewBytes w1.heap.size T) (fun _ _ _ h hb => h.grow hb) ?_ ?_
 ·
  (
   intro u w' hk hd
   simp [Waited, Region.binds, Is] at hd
   refine looked_want (by first | rfl | simp [Region.wanted, yielded, hd]) ?_
   intro K hK
   obtain ⟨hcR, _⟩ := bcell hk
   skip
   go_wp2_with (go_at_call 184; (with_reducible refine (htext _ (hB1.below hk)).mono ?_); rintro e w3 ⟨v3, rfl, hv3, hb3⟩)
   try simp only [hd] at hK
   exact hK _ _ hb3 (hv3.mono hk.size))
 iterate 3 (
  apply Lex.is
  ·
   (
    intro u w' hk hd
    simp [Waited, Region.binds, Is] at hd
    refine looked_want (by first | rfl | simp [Region.wanted, yielded, hd]) ?_
    intro K hK
    obtain ⟨hcR, _⟩ := bcell hk
    go_wp2_with (fail)
    try simp only [hd] at hK
    refine hK _ _ ?_ rfl
    first | exact Below.refl _ _ | exact hb3)
  )
 refine Lex.is (c := (q32 (hi32 mac))) ?_ ?_
 ·
  (
   intro u w' hk hd
   simp [Waited, Region.binds, Is] at hd
   refine looked_want (by first | rfl | simp [Region.wanted, yielded, hd]) ?_
   intro K hK
   obtain ⟨hcR, _⟩ := bcell hk
   go_wp2_with fail
   try simp only [hd] at hK
   refine hK _ _ ?_ rfl
   exact Below.refl _ _)
 refine Lex.word (IsWord (hi32 mac).toNat) (fun _ _ _ h hb => h.grow hb) ?_ ?_
 ·
  (
   intro u w' hk hd
   simp [Waited, Region.binds, Is] at hd
   refine looked_want (by first | rfl | simp [Region.wanted, yielded, hd]) ?_
   intro K hK
   obtain ⟨hcR, _⟩ := bcell hk
   skip
   go_wp2_with (go_at_call 185; (with_reducible refine (word_w _ _).mono ?_); rintro e w3 ⟨v3, rfl, hv3, hb3⟩)
   try simp only [hd] at hK
   exact hK _ _ hb3 hv3)
 iterate 2 (
  apply Lex.is
  ·
   (
    intro u w' hk hd
    simp [Waited, Region.binds, Is] at hd
    refine looked_want (by first | rfl | simp [Region.wanted, yielded, hd]) ?_
    intro K hK
    obtain ⟨hcR, _⟩ := bcell hk
    go_wp2_with (fail)
    try simp only [hd] at hK
    refine hK _ _ ?_ rfl
    first | exact Below.refl _ _ | exact hb3)
  )
 refine Lex.is (c := (q32 (lo32 mac))) ?_ ?_
 ·
  (
   intro u w' hk hd
   simp [Waited, Region.binds, Is] at hd
   refine looked_want (by first | rfl | simp [Region.wanted, yielded, hd]) ?_
   intro K hK
   obtain ⟨hcR, _⟩ := bcell hk
   go_wp2_with fail
   try simp only [hd] at hK
   refine hK _ _ ?_ rfl
   exact Below.refl _ _)
 refine Lex.word (IsWord (lo32 mac).toNat) (fun _ _ _ h hb => h.grow hb) ?_ ?_
 ·
  (
   intro u w' hk hd
   simp [Waited, Region.binds, Is] at hd
   refine looked_want (by first | rfl | simp [Region.wanted, yielded, hd]) ?_
   intro K hK
   obtain ⟨hcR, _⟩ := bcell hk
   skip
   go_wp2_with (go_at_call 185; (with_reducible refine (word_w _ _).mono ?_); rintro e w3 ⟨v3, rfl, hv3, hb3⟩)
   try simp only [hd] at hK
   exact hK _ _ hb3 hv3)
 have hTl := hT.out
 refine Lex.word (IsParts [T, be 4 (hi32 mac).toNat, be 4 (lo32 mac).toNat]) (fun _ _ _ h hb => h.grow hb) ?_ ?_
 ·
  (
   intro u w' hk hd
   simp [Waited, Region.binds, Is] at hd
   refine looked_want (by first | rfl | simp [Region.wanted, yielded, hd]) ?_
   intro K hK
   obtain ⟨hcR, _⟩ := bcell hk
   obtain ⟨⟨A0, c0, d0, hB0, _⟩, ⟨g1', d1, hg1'⟩, ⟨g2', d2, hg2'⟩⟩ := hd
   go_wp2_with (fail)
   simp only [d0, d1, d2] at hK
   exact hK _ _ ((Below.refl _ _).alloc (Nat.le_refl _) _) ⟨_, _, rfl, Blk.new _ _ _, ⟨_, _, rfl, hB0.alloc _⟩, word4_is (hg1'.alloc _) (be_length _ _), word4_is (hg2'.alloc _) (be_length _ _), trivial⟩)
 refine Lex.word (NewBytes w1.heap.size ([T, be 4 (hi32 mac).toNat, be 4 (lo32 mac).toNat].flatten)) (fun _ _ _ h hb => h.grow hb) ?_ ?_
 ·
  (
   intro u w' hk hd
   simp [Waited, Region.binds] at hd
   obtain ⟨⟨gp, vs, d0, hgp, hP⟩, _⟩ := hd
   refine looked_want (by first | rfl | simp [Region.wanted, yielded]) ?_
   intro K hK
   go_wp2_with (go_at_call 141; go_loud (refine (joined_is ([T, be 4 (hi32 mac).toNat, be 4 (lo32 mac).toNat]) gp 3 vs _ rfl hgp hP (by simp) (by simp) (by simp [Lib.lens, be_length] <;> omega)).mono ?_); rintro e w3 ⟨v3, rfl, hv3, hb3⟩)
   try simp only [d0] at hK
   exact hK _ _ hb3 (hv3.mono hk.size))
 refine Lex.word (NewBytes w1.heap.size ([T, be 4 (hi32 mac).toNat, be 4 (lo32 mac).toNat].flatten)) (fun _ _ _ h hb => h.grow hb) ?_ ?_
 ·
  (
   intro u w' hk hd
   simp [Waited, Region.binds] at hd
   refine looked_want (by first | rfl | simp [Region.wanted, yielded]) ?_
   intro K hK
   go_wp2_with fail
   exact hK _ _ (Below.refl _ _) (by first | simpa using hd | simpa using hd.1))
 apply Lex.is
 ·
  (
   intro u w' hk hd
   simp [Waited, Region.binds, Is] at hd
   refine looked_want (by first | rfl | simp [Region.wanted, yielded, hd]) ?_
   intro K hK
   obtain ⟨hcR, _⟩ := bcell hk
   go_wp2_with (fail)
   try simp only [hd] at hK
   refine hK _ _ ?_ rfl
   first | exact Below.refl _ _ | exact hb3)
 apply Lex.nil
 intro u w' hk hd
 simp only [List.nil_append, List.cons_append] at hd
 have hlast := hd 13 _ rfl
 have hzero := hd 14 _ rfl
 clear hd
 simp only [Is] at hzero
 rw [hzero]
 go_wp2_with fail
 go_ret2
 exact ⟨_, rfl, hlast.mono (by have := hb01.size; omega), below_then hb01 hk⟩
theorem penc_k (p : P7) (A : Option Addr) (n c : Nat) (w : World) (hn : n = p.body.length) (hB : Bytes w A c p.body) (hlen : p.body.length ≤ 2000) :
  Calls Tryz.prog 139 #[.agg #[.int .i64 p.kind, .int .i64 p.dir, .int .i64 p.train, q32 p.a, q32 p.b, .slice A n c, q64 p.mac]] w fun e w' => ∃ v, e = .returned (.tuple #[v, .int .i64 (if may p then 0 else 1)]) ∧ NewBytes w.heap.size (enc p) v w' ∧ Below w.heap.size w w' := by
 subst hn
 obtain ⟨kind, dir, train, a, b, body, mac⟩ := p
 simp only at hlen hB ⊢
 cases hm : may ⟨kind, dir, train, a, b, body, mac⟩ with
 | false =>
  refine (enc_no kind dir train a b body mac A c w hlen hm).mono ?_
  rintro e w' ⟨rfl, hb⟩
  exact ⟨_, rfl, by simp only [enc, hm]; exact NewBytes.nil, hb⟩
 | true =>
  by_cases hk : kind = 1
  ·
   subst hk
   exact enc_1 dir train a b body mac A c w hB hlen hm
  ·
   exact enc_2 kind dir train a b body mac A c w hB hlen hm hk
open Go.RowKit
def Turned (t : TypeId) (w w' : World) : Prop := w' = w ∨ ∃ g cs new, Blk w g t cs ∧ Blk w' g t new ∧ new.size = cs.size ∧ w'.heap.size = w.heap.size ∧ ∀ k, k ≠ g → w'.heap[k]? = w.heap[k]?
def WaysC (B s1 : Nat) (t1 : TypeId) (s2 : Nat) (t2 : TypeId) (i : Nat) (w w' : World) : Prop := Below B w w' ∧ (i ≠ s1 → i ≠ s2 → Below w.heap.size w w') ∧ (i = s1 → Turned t1 w w') ∧ (i = s2 → Turned t2 w w')
theorem waysC_same (B s1 : Nat) (t1 : TypeId) (s2 : Nat) (t2 : TypeId) (i : Nat) (w : World) : WaysC B s1 t1 s2 t2 i w w := ⟨Below.refl _ _, fun _ _ => Below.refl _ _, fun _ => .inl rfl, fun _ => .inl rfl⟩
theorem waysC_below {B s1 : Nat} {t1 : TypeId} {s2 : Nat} {t2 : TypeId} {i : Nat} {w w' : World} (hB : B ≤ w.heap.size) (h : Below w.heap.size w w') (h1 : i ≠ s1) (h2 : i ≠ s2) : WaysC B s1 t1 s2 t2 i w w' := ⟨h.mono hB, fun _ _ => h, fun e => absurd e h1, fun e => absurd e h2⟩
theorem BoxB.turned {B n : Nat} {t t' : TypeId} {v : Value} {w w' : World} (h : BoxB B t n v w) (ht : Turned t' w w') : BoxB B t n v w' := by
 obtain ⟨g, cs, e, hg, hb, hs⟩ := h
 rcases ht with rfl | ⟨g', cs', new, h1, h3, h5, h6, h7⟩
 ·
  exact ⟨g, cs, e, hg, hb, hs⟩
 ·
  by_cases hgg : g = g'
  ·
   subst hgg
   unfold Blk at h1 hb
   rw [hb] at h1
   simp at h1
   obtain ⟨rfl, rfl⟩ := h1
   exact ⟨g, new, e, hg, h3, by omega⟩
  ·
   exact ⟨g, cs, e, hg, (h7 g hgg).trans hb, hs⟩
theorem BoxB.keepC {B s1 s2 i n : Nat} {t1 t2 t : TypeId} {v : Value} {w w' : World} (h : BoxB B t n v w) (ht : WaysC B s1 t1 s2 t2 i w w') : BoxB B t n v w' := by
 by_cases h1 : i = s1
 ·
  exact h.turned (ht.2.2.1 h1)
 ·
  by_cases h2 : i = s2
  ·
   exact h.turned (ht.2.2.2 h2)
  ·
   obtain ⟨g, cs, e, hg, hb, hs⟩ := h
   exact ⟨g, cs, e, hg, hb.below (ht.2.1 h1 h2) hb.lt, hs⟩
theorem Blk.turned {g : Nat} {t t' : TypeId} {cs : Array Value} {w w' : World} (h : Blk w g t cs) (ht : Turned t' w w') (hne : t ≠ t') : Blk w' g t cs := by
 rcases ht with rfl | ⟨g', cs', new, h1, h3, h5, h6, h7⟩
 ·
  exact h
 ·
  exact (h7 g (blk_ne h h1 hne)).trans h
theorem stableC_box {ops : Array Oper} {B s1 s2 j n : Nat} {t1 t2 t : TypeId} : StableW ops (WaysC B s1 t1 s2 t2) j (Own1 j (BoxB B t n)) := fun _ hij _ _ _ _ _ h ht => own1_keep hij h fun _ h => BoxB.keepC h ht
theorem stableC_full1 {ops : Array Oper} {B s1 s2 b : Nat} {t1 t2 : TypeId} {cs : Array Value} (hb : waitsB ops b s1 = true) (ht12 : t1 ≠ t2) : StableW ops (WaysC B s1 t1 s2 t2) s1 (FullB B b t1 cs) := by
 intro i hij hf u v w w' h ht
 obtain ⟨g, e, hg, hbk⟩ := h
 have hne : i ≠ b := fun e => waitsB_spec hb (e ▸ hf)
 refine ⟨g, by rw [upd_other u v (fun e => hne e.symm)]; exact e, hg, ?_⟩
 by_cases h2 : i = s2
 ·
  exact hbk.turned (ht.2.2.2 h2) ht12
 ·
  exact hbk.below (ht.2.1 hij h2) hbk.lt
theorem stableC_full2 {ops : Array Oper} {B s1 s2 b : Nat} {t1 t2 : TypeId} {cs : Array Value} (hb : waitsB ops b s2 = true) (ht12 : t2 ≠ t1) : StableW ops (WaysC B s1 t1 s2 t2) s2 (FullB B b t2 cs) := by
 intro i hij hf u v w w' h ht
 obtain ⟨g, e, hg, hbk⟩ := h
 have hne : i ≠ b := fun e => waitsB_spec hb (e ▸ hf)
 refine ⟨g, by rw [upd_other u v (fun e => hne e.symm)]; exact e, hg, ?_⟩
 by_cases h1 : i = s1
 ·
  exact hbk.turned (ht.2.2.1 h1) ht12
 ·
  exact hbk.below (ht.2.1 h1 hij) hbk.lt
open Go.RowKit Go.Shelf
set_option maxRecDepth 8000 in
theorem behind_c (m : TpM) (w : World) : Calls Tryz.prog 75 #[.agg m.cells, psV ⟨0, 10, false⟩] w fun e w' => e = .returned (.int .i64 10) ∧ Below w.heap.size w w' := by
 have hO : Own w _ [_, _] := Own.start2 w 27 38 m.cells #[.int .i64 0, .int .i64 10, .bool false]
 have hcx := hO.b1.cell
 unfold psV at *
 go_enter Tryz.func75, Tryz.ntmps75
 go_wp2_with fail
 go_ret
 exact ⟨rfl, hO.below⟩
set_option maxRecDepth 8000 in
set_option maxHeartbeats 4000000 in
theorem gone_c {w : World} {m : TpM} (h : TpIs w line16 m) : Calls Tryz.prog 74 #[.agg m.cells, .agg #[.int .i64 7, .int .i64 0, .int .i64 10], .bool false, .int .i64 40] w fun e w' => ∃ g, e = .returned (.slice (some ⟨g, 0, none⟩) 1 1) ∧ w.heap.size ≤ g ∧ Blk w' g 95 #[.int .i64 0, .bool false] ∧ Below w.heap.size w w' := by
 have hO : Own w _ [_, _, _, _] := Own.start4 w 27 93 95 95 m.cells #[.int .i64 7, .int .i64 0, .int .i64 10] #[.int .i64 0, .bool false] #[.int .i64 0, .bool false]
 have hO2 := Own.start2 w 27 93 m.cells #[.int .i64 7, .int .i64 0, .int .i64 10]
 have hO3 := Own.start3 w 27 93 95 m.cells #[.int .i64 7, .int .i64 0, .int .i64 10] #[.int .i64 0, .bool false]
 have hcb := hO2.b1.cell
 have hcs := hO3.b2.cell
 have hc1 := hO.b0.cell
 have hc2 := hO.b1.cell
 obtain ⟨i, ev, ge, offe, hi, hin, hie, hA1, hke, hev⟩ := edge_at h (show thereT line16 0 = true by decide +kernel)
 rw [show edgeT line16 0 = 100 by decide +kernel] at hie
 obtain rfl : i = 0 := by omega
 subst hie
 simp only [Nat.add_zero] at hke
 have hq1 := h.q1
 have hbe := fun W => behind_c m W
 unfold psV TpM.cells at *
 simp only [hA1] at hO hO2 hO3 hcb hcs hc1 hc2 hbe ⊢
 clear hi hev h hO2 hO3
 go_enter Tryz.func74, Tryz.ntmps74
 go_wp2_with (first
  |(go_at_call 75; (with_reducible refine (hbe _).mono ?_); rintro e w1 ⟨rfl, hb1⟩; replace hO := hO.grow hb1))
 go_loopw [3, 10] (fun s t wr => s = .int .i64 50 ∧ t = .slice (some ⟨w.heap.size + 1 + 1 + 1, 0, none⟩) 1 1 ∧ wr = w1) (fun _ _ _ => 0)
 case atStart => exact ⟨rfl, rfl, rfl⟩
 case round =>
  obtain ⟨rfl, rfl, rfl⟩ := hrel
  have hcl := hO.b0.cell
  have hct := hO.b2.cell
  have ke := hke _ hO.below
  go_wp2_with fail
  go_ret
  exact ⟨_, rfl, by omega, hO.b3, hO.below⟩
open Go.RowKit Go.Shelf
def laysHasLo_ren : Go.Shelf.Ren := ⟨fun | 7 => 127 | 6 => 177 | n => n, fun | 22 => 87 | 24 => 86 | 4 => 4 | 0 => 0 | 3 => 3 | n => n, fun | n => n⟩
theorem laysHasLo : Go.Proofs.SlLaysQ.n7 Tryz.prog laysHasLo_ren where
 mixed := by kernel_rfl
 f6 := ⟨ "slices.Index[[]lineside/api.Lock,lineside/api.Lock]", by decide, Tryz.func177.trans (congrArg some (by kernel_rfl))⟩
 f7 := ⟨ "slices.Contains[[]lineside/api.Lock,lineside/api.Lock]", by decide, Tryz.func127.trans (congrArg some (by kernel_rfl))⟩
 t0 := Tryz.underlying0
 a0 := Tryz.isAgg0
 z0 := Tryz.sizeOf0
 v0 := Tryz.zeroValue0
 t3 := Tryz.underlying3
 a3 := Tryz.isAgg3
 z3 := Tryz.sizeOf3
 v3 := Tryz.zeroValue3
 t4 := Tryz.underlying4
 a4 := Tryz.isAgg4
 z4 := Tryz.sizeOf4
 v4 := Tryz.zeroValue4
 t22 := Tryz.underlying87
 a22 := Tryz.isAgg87
 z22 := Tryz.sizeOf87
 v22 := Tryz.zeroValue87
instance : Inhabited Lo := ⟨⟨0, 0, 0⟩⟩
def encLo : Laid Lo := ⟨3, fun s => [.int .i64 s.route, .int .i64 s.train, .int .i64 s.no], fun _ => rfl, fun _ u hu => by simp at hu; rcases hu with rfl | rfl | rfl <;> rfl, by decide⟩
def eqLo (x y : Lo) : Bool := x.route == y.route && (x.train == y.train && x.no == y.no)
theorem eqlLo : EqlAt Tryz.prog 86 (fun x => .agg (encLo.enc x).toArray) eqLo := by
 refine ⟨fun x y w => ?_, GuardAt.agg _ (by kernel_rfl)⟩
 have u3 := Tryz.underlying3
 have a3 := Tryz.isAgg3
 have z3 := Tryz.sizeOf3
 have hS : Tryz.prog.underlying 86 = some (.struct (Tryz.prog.fieldsOf 86)) := by kernel_rfl
 have hp : Tryz.prog.stoodInHeld 86 = false := by kernel_rfl
 simp only [encLo]
 rw [run_eql_struct, show (10000 : Nat) = 9998 + 1 + 1 from rfl, run_equalIn_agg w (9998 + 1) 86 _ _ hS hp]
 simp only [Program.fieldsOf, Tryz.underlying86]
 go_simp
 obtain ⟨x1, x2, x3⟩ := x
 obtain ⟨y1, y2, y3⟩ := y
 unfold eqLo
 by_cases h1 : x1 = y1 <;> by_cases h2 : x2 = y2 <;> by_cases h3 : x3 = y3 <;> simp [h1, h2, h3]
theorem has_cells {α : Type} [Inhabited α] {E : Laid α} {w : World} {b off : Nat} {xs : List α} (hR : RowsAt E w (some ⟨b, off, none⟩) xs) : ∀ j, j < xs.length → ∀ i v, (E.enc xs[j]!)[i]? = some v → w.cell? ⟨b, off + j * E.k + i, none⟩ = some v := by
 intro j hj i u hi
 obtain ⟨b', off', e, _, hc⟩ := hR.get (List.getElem?_eq_getElem hj)
 simp only [Option.some.injEq, Addr.mk.injEq] at e
 obtain ⟨rfl, rfl, -⟩ := e
 rw [getElem!_pos xs j hj] at hi
 exact hc i u hi
set_option maxRecDepth 8000 in
set_option maxHeartbeats 4000000 in
theorem ixSt1 (b off n c : Nat) (w : World) (hn : 1 ≤ n) (hnc : n ≤ c) (hb : b < w.heap.size) (h0 : w.cell? ⟨b, off, none⟩ = some (.int .i64 0)) (h1 : w.cell? ⟨b, off + 1, none⟩ = some (.bool false)) :
  Calls Tryz.prog 77 #[.slice (some ⟨b, off, none⟩) n c, .agg #[.int .i64 0, .bool false]] w fun e w' => e = .returned (.int .i64 0) ∧ Below w.heap.size w w' := by
 have hO : Own w _ [_] := (Own.nil w).alloc 95 #[.int .i64 0, .bool false] _ rfl
 have heq := fun W => run_eql_st ⟨0, false⟩ ⟨0, false⟩ W
 unfold stV at heq
 simp only [decide_true] at heq
 have ka0 := fun W (hW : Below w.heap.size w W) => (hW.cell (p := ⟨b, off, none⟩) hb).trans h0
 have ka1 := fun W (hW : Below w.heap.size w W) => (hW.cell (p := ⟨b, off + 1, none⟩) hb).trans h1
 clear h0 h1
 have e1 : decide ((0 : Int) < (n : Int)) = true := by simp; omega
 have hn0 : 0 < n := hn
 go_enter Tryz.func77, Tryz.ntmps77
 go_wp2_with fail
 generalize hge : (w.alloc (.cells #[.int .i64 0, .bool false] 95)) = W0 at *
 clear hge
 go_loopw [8] (fun s wr => s = .int .i64 0 ∧ wr = W0) (fun _ _ => 0)
 case atStart => exact ⟨rfl, rfl⟩
 case round =>
  obtain ⟨rfl, rfl⟩ := hrel
  go_wp2_with fail
  apply wp_region_lex
  case hFl => intro u; simp only [List.map, fill, Act.put, List.setIfInBounds_toArray, List.set_cons_zero, List.set_cons_succ, Nat.reduceAdd, Nat.zero_add]; with_reducible rfl
  case hm => kernel_rfl
  case hB => kernel_rfl
  case hap => kernel_rfl
  repeat (first | (apply Lex.is; · (intro u w' hk hd; simp [Waited, Region.binds, Is] at hd; refine looked_want ?_ ?_; (· (first | rfl | (simp [Region.wanted, yielded, hd]; done))); intro K hK; have hO2 := hO.grow hk; have hcx := hO2.b0.cell; have m0 := ka0 _ hO2.below; have m1 := ka1 _ hO2.below; go_wp2_with (fail); (try simp only [hd] at hK); refine hK _ _ ?_ rfl; first | exact Below.refl _ _ | exact hb3)) | (refine Lex.is (c := undef) ?_ ?_; · (intro u w' hk hd; simp [Waited, Region.binds, Is] at hd; exact looked_skip (by simp [Region.wanted, yielded, hd]) rfl)))
  apply Lex.nil
  intro u w' hk hd
  simp only [List.nil_append, List.cons_append] at hd
  have hlast := hd 5 _ rfl
  simp only [Is] at hlast
  clear hd
  simp only [hlast]
  have hO3 := hO.grow hk
  clear hlast hk
  go_wp2_with fail
  go_ret
  exact ⟨rfl, hO3.below⟩
theorem hasSt1 (b off n c : Nat) (w : World) (hn : 1 ≤ n) (hnc : n ≤ c) (hb : b < w.heap.size) (h0 : w.cell? ⟨b, off, none⟩ = some (.int .i64 0)) (h1 : w.cell? ⟨b, off + 1, none⟩ = some (.bool false)) :
  Calls Tryz.prog 130 #[.slice (some ⟨b, off, none⟩) n c, .agg #[.int .i64 0, .bool false]] w fun e w' => e = .returned (.bool true) ∧ Below w.heap.size w w' := by
 have hO : Own w _ [_] := (Own.nil w).alloc 95 #[.int .i64 0, .bool false] _ rfl
 have hcl := hO.b0.cell
 have hix := fun W (hW : Below w.heap.size w W) => ixSt1 b off n c W hn hnc (Nat.lt_of_lt_of_le hb hW.size) ((hW.cell (p := ⟨b, off, none⟩) hb).trans h0) ((hW.cell (p := ⟨b, off + 1, none⟩) hb).trans h1)
 clear h0 h1
 go_enter Tryz.func130, Tryz.ntmps130
 go_wp2_with (first
  |(go_at_call 77; (with_reducible refine (hix _ hO.below).mono ?_); rintro e w1 ⟨rfl, hb1⟩; replace hO := hO.grow hb1))
 go_ret
 exact ⟨rfl, hO.below⟩
theorem ixLo0 (A : Option Addr) (c : Nat) (x : Lo) (w : World) : Calls Tryz.prog 177 #[.slice A 0 c, .agg (encLo.enc x).toArray] w fun e w' => e = .returned (.int .i64 (-1)) ∧ Below w.heap.size w w' := by
 have hO : Own w _ [_] := (Own.nil w).alloc 86 (encLo.enc x).toArray _ rfl
 go_enter Tryz.func177, Tryz.ntmps177
 go_wp2
 go_loopg [5, 8] 0 (fun _ _ s8 wr => s8 = .int .i64 0 ∧ Below w.heap.size w wr)
 case atStart => exact ⟨rfl, hO.below⟩
 case round =>
  obtain ⟨rfl, hw⟩ := hrel
  go_wp2
  go_ret
  exact ⟨rfl, hw⟩
theorem hasLo0 (A : Option Addr) (c : Nat) (x : Lo) (w : World) : Calls Tryz.prog 127 #[.slice A 0 c, .agg (encLo.enc x).toArray] w fun e w' => e = .returned (.bool false) ∧ Below w.heap.size w w' := by
 have hO : Own w _ [_] := (Own.nil w).alloc 86 (encLo.enc x).toArray _ rfl
 have hcl := hO.b0.cell
 have h0 := fun W => ixLo0 A c x W
 simp only [encLo] at *
 go_enter Tryz.func127, Tryz.ntmps127
 go_wp2_with (first
  |(go_at_call 177; (with_reducible refine (h0 _).mono ?_); rintro e w1 ⟨rfl, hb1⟩; replace hO := hO.grow hb1))
 go_ret
 exact ⟨rfl, hO.below⟩
theorem hasLo_k (b off n c : Nat) (xs : List Lo) (x : Lo) (w : World) (hR : RowsAt encLo w (some ⟨b, off, none⟩) xs) (hn : xs.length = n) (hb : n ≤ 9223372036854775807) :
  Calls Tryz.prog 127 #[.slice (some ⟨b, off, none⟩) n c, .agg (encLo.enc x).toArray] w fun e w' => e = .returned (.bool (xs.any fun y => eqLo x y)) ∧ Below w.heap.size w w' := by
 have := AnyQ.slices_Contains laysHasLo 3 Tryz.isAgg86 Tryz.sizeOf86 encLo.enc encLo.len _ eqlLo b off n c xs x w (by omega) hb (has_cells hR)
 rwa [← hn, List.take_length, hn] at this
open Go.RowKit Go.Shelf
theorem Own.sub {w W : World} {L1 L2 : List Bk} (h : Own w W (L1 ++ L2)) : Own w W L1 :=
 ⟨h.below, fun x hx => h.blk x (by simp [hx]), by have := h.nodup; rw [List.map_append, List.nodup_append] at this; exact this.1⟩
theorem rowLo : RowType Tryz.prog encLo 87 86 24 := row_of (.agg #[.int .i64 0, .int .i64 0, .int .i64 0]) Tryz.underlying87 (by kernel_rfl) rfl
set_option maxRecDepth 8000 in
set_option maxHeartbeats 4000000 in
theorem chain3_k (b off n c gs : Nat) (id gap tm : Int) (w : World) (hn : 1 ≤ n) (hnc : n ≤ c) (hb : b < w.heap.size) (h0 : w.cell? ⟨b, off, none⟩ = some (.int .i64 0)) (h1 : w.cell? ⟨b, off + 1, none⟩ = some (.bool false)) (hs : Blk w gs 95 #[.int .i64 0, .bool false]) :
  Calls Tryz.prog 134 #[.agg #[.int .i64 id, .slice (some ⟨b, off, none⟩) n c, .int .i64 gap, .int .i64 tm], .pointer (some ⟨gs, 0, none⟩)] w fun e w' => e = .returned (.bool true) ∧ Below w.heap.size w w' := by
 have hO : Own w _ [_] := (Own.nil w).alloc 97 #[.int .i64 id, .slice (some ⟨b, off, none⟩) n c, .int .i64 gap, .int .i64 tm] _ rfl
 have hcl := hO.b0.cell
 have hcs := (hs.below hO.below hs.lt).cell
 have hix := fun W (hW : Below w.heap.size w W) => hasSt1 b off n c W hn hnc (Nat.lt_of_lt_of_le hb hW.size) ((hW.cell (p := ⟨b, off, none⟩) hb).trans h0) ((hW.cell (p := ⟨b, off + 1, none⟩) hb).trans h1)
 clear h0 h1
 go_enter Tryz.func134, Tryz.ntmps134
 go_wp2_with (first
  |(go_at_call 130; (with_reducible refine (hix _ hO.below).mono ?_); rintro e w1 ⟨rfl, hb1⟩; replace hO := hO.grow hb1))
 go_ret
 exact ⟨rfl, hO.below⟩
theorem below_none {w w' : World} (h : w.grownBy w' none) : Below w.heap.size w w' := ⟨h.os, h.tape, h.output, h.size, fun k hk => h.block k hk (by simp)⟩
theorem grown1 (w : World) (g i : Nat) (x : Value) : w.grownBy (w.setCell ⟨g, i, none⟩ x) (some g) := ⟨rfl, rfl, rfl, by simp [World.setCell], fun k _ hne => Below.heap_setCell w ⟨g, i, none⟩ x k (fun e => hne (by rw [e]))⟩
theorem blk_not {w : World} {g : Nat} {t t' : TypeId} {cs : Array Value} (h : Blk w g t cs) (ht : t ≠ t') : ∀ cs', ¬ Blk w g t' cs' := fun _ h' => blk_ne h h' ht rfl
def chainL (w : World) (m : TpM) (gt bl gn gs : Nat) (gl go gg : Nat) (o1 : Value) (o2 : Value) : List Bk := [(gt, 27, m.cells), (gl, 87, #[.slice (some ⟨bl, 0, none⟩) 1 1]), (gn, 3, #[.int .i64 5]), (gs, 95, #[.int .i64 0, .bool false]), (go, 87, #[o1]), (gg, 39, #[o2])]
set_option maxRecDepth 8000 in
set_option maxHeartbeats 8000000 in
theorem chain1_k {ww w : World} {m : TpM} {gt bl gn gs gl go gg : Nat} (h : TpIs ww line16 m) (hL : Blk ww bl 86 #[.int .i64 1, .int .i64 5, .int .i64 1]) (hO : Own ww w (chainL ww m gt bl gn gs gl go gg (.slice none 0 0) (.slice none 0 0))) :
  Calls Tryz.prog 126 #[.func (.func 134) #[] #[.pointer (some ⟨gs, 0, none⟩)], .pointer (some ⟨gl, 0, none⟩), .pointer (some ⟨gt, 0, none⟩), .pointer (some ⟨gn, 0, none⟩), .pointer (some ⟨go, 0, none⟩), .pointer (some ⟨gg, 0, none⟩)] w fun e w' => e = .returned (.bool true) ∧ ∃ A c o2, Own ww w' (chainL ww m gt bl gn gs gl go gg (.slice A 1 c) o2) ∧ RowsAt encLo w' A [⟨1, 5, 1⟩] := by
 unfold chainL at *
 have hrt := fun W (hW : Below ww.heap.size ww W) => route_m (h.below hW) 1
 unfold RetRt at hrt
 rw [show routeT line16 1 = some ⟨1, [⟨0, false⟩, ⟨1, false⟩], 0, 30⟩ from rfl] at hrt
 simp only at hrt
 have hl0 := fun W (hW : Below ww.heap.size ww W) => (hL.below hW hL.lt).cell
 have hcl := hO.b1.cell
 clear h
 go_enter Tryz.func126, Tryz.ntmps126
 go_wp2_with fail
 go_loopw [14] (fun s wr => s = .int .i64 0 ∧ wr = w) (fun _ _ => 0)
 case atStart => exact ⟨rfl, rfl⟩
 case round =>
  obtain ⟨rfl, rfl⟩ := hrel
  have hlc := hl0 _ hO.below
  have hO7 := hO.alloc 86 #[.int .i64 1, .int .i64 5, .int .i64 1] wr.heap.size rfl
  simp only [List.cons_append, List.nil_append] at hO7
  have hct := hO7.b0.cell
  have hck := hO7.b6.cell
  have hha := fun W => hasLo0 none 0 ⟨1, 5, 1⟩ W
  simp only [encLo] at hha
  go_wp2_with (first
   |((with_reducible refine own_loadg0 hO7 ?_ _ rfl rfl _ Tryz.underlying27 rfl (by kernel_rfl) ?_); (· first | rfl | (simp [Region.wanted, yielded]; done)))
   |(go_at_call 76; (with_reducible refine (hrt _ hO7.below).mono ?_); rintro e w1 ⟨⟨A, c, rfl, hown⟩, hb1⟩; replace hO7 := hO7.grow hb1; obtain ⟨ga, cur, eA, hga, hba, hsz, hc2, hc3, htk⟩ := hown.blk (hown.some_ (by decide)); subst eA; have hO8 := hO7.alloc 97 #[.int .i64 1, .slice (some ⟨ga, 0, none⟩) 2 c, .int .i64 0, .int .i64 30] w1.heap.size rfl; simp only [List.cons_append, List.nil_append] at hO8; replace hown := hown.alloc (.cells #[.int .i64 1, .slice (some ⟨ga, 0, none⟩) 2 c, .int .i64 0, .int .i64 30] 97); have hgaL := hba.lt; clear hba hsz htk cur hga; have hck8 := hO8.b6.cell; have hcn8 := hO8.b2.cell; have hco8 := hO8.b4.cell)
   |(go_at_call 127; (with_reducible refine (hha _).mono ?_); rintro e w2 ⟨rfl, hb2⟩; replace hO8 := hO8.grow hb2; replace hown := hown.below hb2; have hcr8 := hO8.b7.cell; obtain ⟨bx, ox, ex, hbx, hcx⟩ := hown.rows.get (i := 0) (x := ⟨0, false⟩) rfl; simp only [Option.some.injEq, Addr.mk.injEq] at ex; obtain ⟨e1, e2, -⟩ := ex; subst e1; subst e2; have p0 := hcx 0 (.int .i64 0) rfl; have p1 := hcx 1 (.bool false) rfl; clear hcx; simp only [encSt, Nat.zero_add, Nat.zero_mul, Nat.add_zero] at p0 p1; have hx3 := chain3_k ga 0 2 c gs 1 0 30 w2 (by omega) hc2 hbx (by simpa using p0) (by simpa using p1) hO8.b3)
   |(go_at_call 134; (with_reducible refine hx3.mono ?_); rintro e w3 ⟨rfl, hb3⟩; clear hx3; replace hO8 := hO8.grow hb3; replace hown := hown.below hb3; have hck9 := hO8.b6.cell; have hco9 := hO8.b4.cell)
   |(at_builtin; refine wpList_app_rows rowLo rfl _ _ rfl ww.heap.size none 0 [] 0 rfl rfl (OwnRows.nil _ _) _ 1 [⟨1, 5, 1⟩] 1 rfl rfl (rows_blk (Blk.new w3 86 #[.int .i64 1, .int .i64 5, .int .i64 1]) rfl) (by omega) (by decide) (Nat.le_trans hO8.below.size (by simp)) ?_; intro A2 c2 w5 ho5 hg5 _; have hb5 := below_none hg5; replace hO8 := (hO8.grow ((Below.refl _ _).alloc (Nat.le_refl _) _)).grow hb5; replace hown := (hown.alloc (.cells #[.int .i64 1, .int .i64 5, .int .i64 1] 86)).below hb5; have hco5 := hO8.b4.cell; have hfo5 := hO8.b4.frozen 0; have hO9 := Own.change (L1 := [_, _, _, _]) hO8 (grown1 w5 go 0 (.slice A2 1 c2)) (hO8.b4.set_ 0 _); simp only [List.cons_append, List.nil_append] at hO9; replace hown := hown.away (grown1 w5 go 0 (.slice A2 1 c2)) (blk_not hO8.b4 (by decide)); replace ho5 := ho5.away (grown1 w5 go 0 (.slice A2 1 c2)) (blk_not hO8.b4 (by decide)); have hcg9 := hO9.b5.cell; have hcr9 := hO9.b7.cell)
   |(at_builtin; refine wpList_app_rows rowSt rfl _ _ rfl ww.heap.size none 0 [] 0 rfl rfl (OwnRows.nil _ _) _ c [⟨0, false⟩, ⟨1, false⟩] 2 rfl rfl hown.rows (by omega) (by decide) hO9.below.size ?_; intro A3 c3 w6 ho6 hg6 _; have hb6 := below_none hg6; replace hO9 := hO9.grow hb6; replace ho5 := ho5.below hb6; have hco6 := hO9.b5.cell; have hfo6 := hO9.b5.frozen 0; have hO10 := Own.change (L1 := [_, _, _, _, _]) hO9 (grown1 w6 gg 0 (.slice A3 2 c3)) (hO9.b5.set_ 0 _); simp only [List.cons_append, List.nil_append] at hO10; replace ho5 := ho5.away (grown1 w6 gg 0 (.slice A3 2 c3)) (blk_not hO9.b5 (by decide))))
  go_ret
  exact ⟨rfl, A2, ⟨c2, .slice A3 2 c3, Own.sub (L1 := [_, _, _, _, _, _]) (L2 := [_, _]) hO10⟩, ho5.rows⟩
set_option maxRecDepth 8000 in
set_option maxHeartbeats 8000000 in
theorem chain1b_k {ww w : World} {m : TpM} {gt bl gn gs gl go gg b off c : Nat} {o2 p1 : Value} (h : TpIs ww line16 m) (hL : Blk ww bl 86 #[.int .i64 1, .int .i64 5, .int .i64 1]) (hO : Own ww w (chainL ww m gt bl gn gs gl go gg (.slice (some ⟨b, off, none⟩) 1 c) o2)) (hR : RowsAt encLo w (some ⟨b, off, none⟩) [⟨1, 5, 1⟩]) :
  Calls Tryz.prog 126 #[p1, .pointer (some ⟨gl, 0, none⟩), .pointer (some ⟨gt, 0, none⟩), .pointer (some ⟨gn, 0, none⟩), .pointer (some ⟨go, 0, none⟩), .pointer (some ⟨gg, 0, none⟩)] w fun e w' => e = .returned (.bool false) ∧ Below w.heap.size w w' := by
 unfold chainL at *
 have hrt := fun W (hW : Below ww.heap.size ww W) => route_m (h.below hW) 1
 unfold RetRt at hrt
 rw [show routeT line16 1 = some ⟨1, [⟨0, false⟩, ⟨1, false⟩], 0, 30⟩ from rfl] at hrt
 simp only at hrt
 have hl0 := fun W (hW : Below ww.heap.size ww W) => (hL.below hW hL.lt).cell
 have hcl := hO.b1.cell
 have hha := fun W (hW : Below w.heap.size w W) => hasLo_k b off 1 c [⟨1, 5, 1⟩] ⟨1, 5, 1⟩ W (hR.below hW) rfl (by decide)
 simp only [encLo, show ([⟨1, 5, 1⟩] : List Lo).any (fun y => eqLo ⟨1, 5, 1⟩ y) = true from rfl] at hha
 have hBO := hO.below
 have hb0 : Below w.heap.size w w := Below.refl _ _
 clear h hR
 go_enter Tryz.func126, Tryz.ntmps126
 go_wp2_with fail
 go_loopw [14] (fun s wr => ∃ j : Nat, s = .int .i64 j ∧ j ≤ 1 ∧ Below w.heap.size w wr) (fun s _ => 1 - (intOf s).toNat)
 case atStart => exact ⟨0, rfl, by omega, hb0⟩
 case round =>
  obtain ⟨j, rfl, hj, hbr⟩ := hrel
  have hOr := hO.grow hbr
  have hlc := hl0 _ hOr.below
  by_cases hz : j = 0
  ·
   subst hz
   have hO7 := hOr.alloc 86 #[.int .i64 1, .int .i64 5, .int .i64 1] wr.heap.size rfl
   simp only [List.cons_append, List.nil_append] at hO7
   have hct := hO7.b0.cell
   have hck := hO7.b6.cell
   have hbr7 : Below w.heap.size w (wr.alloc (.cells #[.int .i64 1, .int .i64 5, .int .i64 1] 86)) := hbr.alloc hbr.size _
   go_wp2_with (first
    |((with_reducible refine own_loadg0 hO7 ?_ _ rfl rfl _ Tryz.underlying27 rfl (by kernel_rfl) ?_); (· first | rfl | (simp [Region.wanted, yielded]; done)))
    |(go_at_call 76; (with_reducible refine (hrt _ hO7.below).mono ?_); rintro e w1 ⟨⟨A, c', rfl, hown⟩, hb1⟩; replace hO7 := hO7.grow hb1; have hO8 := hO7.alloc 97 #[.int .i64 1, .slice A 2 c', .int .i64 0, .int .i64 30] w1.heap.size rfl; simp only [List.cons_append, List.nil_append] at hO8; have hbr8 := (hbr7.trans (hb1.mono hbr7.size)).alloc (Nat.le_trans hbr7.size hb1.size) (.cells #[.int .i64 1, .slice A 2 c', .int .i64 0, .int .i64 30] 97); have hck8 := hO8.b6.cell; have hcn8 := hO8.b2.cell; have hco8 := hO8.b4.cell)
    |(go_at_call 127; (with_reducible refine (hha _ hbr8).mono ?_); rintro e w2 ⟨rfl, hb2⟩; have hbr9 := hbr8.trans (hb2.mono hbr8.size)))
   go_roundw
   case rel => exact ⟨1, rfl, by omega, hbr9⟩
   case measure => simp [intOf]
  ·
   obtain rfl : j = 1 := by omega
   go_wp2_with fail
   go_ret
   exact ⟨rfl, hbr⟩
end Go.Proofs.YtkaggddmhjifjaaGreatDoor
