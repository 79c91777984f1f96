/- The cipher's plain law: the schedule of keys, the rounds there and back, over words of 32 bits. No program in sight. -/
namespace Go.Proofs.Ytchjcfbhpgigjaa

theorem rot24 (x : BitVec 32) : x <<< 24 ||| x >>> 8 = x.rotateLeft 24 := by simp [BitVec.rotateLeft_def]
theorem rot3 (x : BitVec 32) : x <<< 3 ||| x >>> 29 = x.rotateLeft 3 := by simp [BitVec.rotateLeft_def]
theorem rot29 (x : BitVec 32) : x <<< 29 ||| x >>> 3 = x.rotateLeft 29 := by simp [BitVec.rotateLeft_def]
theorem rot8 (x : BitVec 32) : x <<< 8 ||| x >>> 24 = x.rotateLeft 8 := by simp [BitVec.rotateLeft_def]

theorem rot_back (x : BitVec 32) (a b : Nat) (h : a + b = 32) (ha : 0 < a) (hb : 0 < b) : (x.rotateLeft a).rotateLeft b = x := by
  apply BitVec.eq_of_getLsbD_eq
  intro i hi
  rw [BitVec.getLsbD_rotateLeft, Nat.mod_eq_of_lt (by omega : b < 32)]
  by_cases h1 : i < b
  · rw [decide_eq_true h1, cond_true, BitVec.getLsbD_rotateLeft, Nat.mod_eq_of_lt (by omega : a < 32), decide_eq_false (by omega), cond_false, decide_eq_true (by omega), Bool.true_and]
    congr 1; omega
  · rw [decide_eq_false h1, cond_false, decide_eq_true hi, Bool.true_and, BitVec.getLsbD_rotateLeft, Nat.mod_eq_of_lt (by omega : a < 32), decide_eq_true (by omega), cond_true]
    congr 1; omega
theorem xor_back (a b : BitVec 32) : (a ^^^ b) ^^^ b = a := by rw [BitVec.xor_assoc, BitVec.xor_self, BitVec.xor_zero]
theorem xor_front (a b : BitVec 32) : a ^^^ (b ^^^ a) = b := by rw [BitVec.xor_comm b a, ← BitVec.xor_assoc, BitVec.xor_self, BitVec.zero_xor]

/-- A word of 64 bits out of two of 32, and back. -/
def join2 (p : BitVec 32 × BitVec 32) : BitVec 64 := p.1.setWidth 64 <<< 32 ||| p.2.setWidth 64
def split2 (b : BitVec 64) : BitVec 32 × BitVec 32 := ((b >>> 32).setWidth 32, b.setWidth 32)
theorem join_split (b : BitVec 64) : join2 (split2 b) = b := by
  unfold join2 split2
  apply BitVec.eq_of_getLsbD_eq
  intro i hi
  by_cases h : i < 32
  · simp [h, hi]
  · have h1 : 32 + (i - 32) = i := by omega
    have h2 : i - 32 < 32 := by omega
    simp [-BitVec.getElem_ushiftRight, h, hi, h1, h2]
theorem split_join (p : BitVec 32 × BitVec 32) : split2 (join2 p) = p := by
  obtain ⟨x, y⟩ := p
  unfold join2 split2
  refine Prod.ext ?_ ?_
  · apply BitVec.eq_of_getLsbD_eq
    intro i hi
    have h1 : 32 + i < 64 := by omega
    have h2 : i < 64 := by omega
    have h3 : ¬ (32 + i < 32) := by omega
    simp [hi, h1, h2]
  · apply BitVec.eq_of_getLsbD_eq
    intro i hi
    simp [hi]
theorem join2_inj {p q : BitVec 32 × BitVec 32} (h : join2 p = join2 q) : p = q := by
  rw [← split_join p, ← split_join q, h]
theorem split2_inj {a b : BitVec 64} (h : split2 a = split2 b) : a = b := by
  rw [← join_split a, ← join_split b, h]

/-- A key: four words. -/
structure K4 where
  k0 : BitVec 32
  k1 : BitVec 32
  k2 : BitVec 32
  k3 : BitVec 32
deriving DecidableEq

/-- The schedule: the key of round i, and the three words l(i), l(i+1), l(i+2). -/
def sched (k : K4) : Nat → BitVec 32 × BitVec 32 × BitVec 32 × BitVec 32
  | 0 => (k.k3, k.k2, k.k1, k.k0)
  | i + 1 =>
    let s := sched k i
    let l := (s.1 + s.2.1.rotateLeft 24) ^^^ BitVec.ofNat 32 i
    (s.1.rotateLeft 3 ^^^ l, s.2.2.1, s.2.2.2, l)
def rk (k : K4) (i : Nat) : BitVec 32 := (sched k i).1
def lk (k : K4) (i : Nat) : BitVec 32 := (sched k i).2.1
theorem lk1 (k : K4) (i : Nat) : lk k (i + 1) = (sched k i).2.2.1 := rfl
theorem lk2 (k : K4) (i : Nat) : lk k (i + 2) = (sched k i).2.2.2 := rfl
theorem lk3 (k : K4) (i : Nat) : lk k (i + 3) = (rk k i + (lk k i).rotateLeft 24) ^^^ BitVec.ofNat 32 i := rfl
theorem rk1 (k : K4) (i : Nat) : rk k (i + 1) = (rk k i).rotateLeft 3 ^^^ lk k (i + 3) := rfl
theorem rk0 (k : K4) : rk k 0 = k.k3 := rfl

/-- One round there, one round back. -/
def enc1 (r : BitVec 32) (p : BitVec 32 × BitVec 32) : BitVec 32 × BitVec 32 :=
  ((p.1.rotateLeft 24 + p.2) ^^^ r, p.2.rotateLeft 3 ^^^ ((p.1.rotateLeft 24 + p.2) ^^^ r))
def dec1 (r : BitVec 32) (p : BitVec 32 × BitVec 32) : BitVec 32 × BitVec 32 :=
  (((p.1 ^^^ r) - (p.1 ^^^ p.2).rotateLeft 29).rotateLeft 8, (p.1 ^^^ p.2).rotateLeft 29)
theorem dec_enc1 (r : BitVec 32) (p : BitVec 32 × BitVec 32) : dec1 r (enc1 r p) = p := by
  obtain ⟨x, y⟩ := p
  unfold dec1 enc1
  simp only [xor_front, xor_back]
  rw [rot_back y 3 29 rfl (by decide) (by decide), BitVec.add_sub_cancel, rot_back x 24 8 rfl (by decide) (by decide)]
theorem enc_dec1 (r : BitVec 32) (p : BitVec 32 × BitVec 32) : enc1 r (dec1 r p) = p := by
  obtain ⟨x, y⟩ := p
  unfold dec1 enc1
  simp only
  rw [rot_back _ 8 24 rfl (by decide) (by decide), rot_back _ 29 3 rfl (by decide) (by decide), BitVec.sub_add_cancel, xor_back]
  have e : x ^^^ y ^^^ x = y := by rw [BitVec.xor_comm x y, xor_back]
  rw [e]
def encN (k : K4) : Nat → BitVec 32 × BitVec 32 → BitVec 32 × BitVec 32
  | 0, p => p
  | n + 1, p => enc1 (rk k n) (encN k n p)
def decN (k : K4) : Nat → BitVec 32 × BitVec 32 → BitVec 32 × BitVec 32
  | 0, p => p
  | n + 1, p => decN k n (dec1 (rk k n) p)
theorem decN_encN (k : K4) (n : Nat) (p : BitVec 32 × BitVec 32) : decN k n (encN k n p) = p := by
  induction n with
  | zero => rfl
  | succ n ih => show decN k n (dec1 (rk k n) (enc1 (rk k n) (encN k n p))) = p; rw [dec_enc1, ih]
theorem encN_decN (k : K4) (n : Nat) : ∀ p : BitVec 32 × BitVec 32, encN k n (decN k n p) = p := by
  induction n with
  | zero => intro p; rfl
  | succ n ih => intro p; show enc1 (rk k n) (encN k n (decN k n (dec1 (rk k n) p))) = p; rw [ih, enc_dec1]
/-- A block turned under a key, and turned back. -/
def Enc (k : K4) (b : BitVec 64) : BitVec 64 := join2 (encN k 27 (split2 b))
def Dec (k : K4) (b : BitVec 64) : BitVec 64 := join2 (decN k 27 (split2 b))
theorem dec_enc (k : K4) (b : BitVec 64) : Dec k (Enc k b) = b := by
  unfold Dec Enc; rw [split_join, decN_encN, join_split]
theorem enc_dec (k : K4) (b : BitVec 64) : Enc k (Dec k b) = b := by
  unfold Dec Enc; rw [split_join, encN_decN, join_split]
theorem enc_inj (k : K4) {a b : BitVec 64} : Enc k a = Enc k b ↔ a = b :=
  ⟨fun h => by rw [← dec_enc k a, ← dec_enc k b, h], fun h => by rw [h]⟩
theorem dec_inj (k : K4) {a b : BitVec 64} : Dec k a = Dec k b ↔ a = b :=
  ⟨fun h => by rw [← enc_dec k a, ← enc_dec k b, h], fun h => by rw [h]⟩
/-- The chapter's example. -/
theorem awake_enc : Enc ⟨0x1b1a1918, 0x13121110, 0x0b0a0908, 0x03020100⟩ 0x3b7265747475432d = 0x8c6fa548454e028b := by decide +kernel
theorem awake_dec : Dec ⟨0x1b1a1918, 0x13121110, 0x0b0a0908, 0x03020100⟩ 0x8c6fa548454e028b = 0x3b7265747475432d := by
  rw [← awake_enc, dec_enc]
/-- Two keys that are alike but for the last word have the same keys of the rounds just if the last words are one. -/
theorem first_eq (k : K4) (n : BitVec 32) : (∀ i, i < 27 → rk k i = rk { k with k3 := n } i) ↔ n = k.k3 :=
  ⟨fun h => (h 0 (by decide)).symm, fun h => by subst h; intros; rfl⟩
end Go.Proofs.Ytchjcfbhpgigjaa
