/- The seal's plain law: blocks of bytes, chained by the cipher. No program in sight. -/
import Derived.Test.YtchjcfbhpgigjaaSpeck
namespace Go.Proofs.Ytchjcfbhpgigjaa

/-- The byte at a place; nought behind the end. -/
def nth (bs : List UInt8) (i : Nat) : UInt8 := bs.getD i 0
/-- The number that up to n bytes from a place on are; what lies behind the end counts nought. -/
def w8 (bs : List UInt8) (at' : Nat) : Nat → BitVec 64
  | 0 => 0
  | i + 1 => if at' + i < bs.length then w8 bs at' i <<< 8 ||| BitVec.ofNat 64 (nth bs (at' + i)).toNat else w8 bs at' i <<< 8
theorem w8_in (bs : List UInt8) (p i : Nat) (h : p + i < bs.length) : w8 bs p (i + 1) = w8 bs p i <<< 8 ||| BitVec.ofNat 64 (nth bs (p + i)).toNat := by
  rw [w8, if_pos h]
theorem w8_out (bs : List UInt8) (p i : Nat) (h : ¬ p + i < bs.length) : w8 bs p (i + 1) = w8 bs p i <<< 8 := by rw [w8, if_neg h]
theorem shl8_mul (x : BitVec 64) : x * (256 : BitVec 64) = x <<< 8 := by
  apply BitVec.eq_of_toNat_eq
  simp [BitVec.toNat_shiftLeft, Nat.shiftLeft_eq]
theorem shl8_add (x : BitVec 64) (b : Nat) (hb : b < 256) : x <<< 8 + BitVec.ofNat 64 b = x <<< 8 ||| BitVec.ofNat 64 b := by
  apply BitVec.add_eq_or_of_and_eq_zero
  apply BitVec.eq_of_getLsbD_eq
  intro i hi
  simp only [BitVec.getLsbD_and, BitVec.getLsbD_shiftLeft, BitVec.getLsbD_ofNat]
  by_cases h : i < 8
  · simp [h]
  · have : b.testBit i = false := Nat.testBit_lt_two_pow (Nat.lt_of_lt_of_le hb (by
      calc 256 = 2 ^ 8 := rfl
        _ ≤ 2 ^ i := Nat.pow_le_pow_right (by decide) (by omega)))
    simp [this]

def nblk (bs : List UInt8) : Nat := (bs.length + 7) / 8
def blkAt (bs : List UInt8) (j : Nat) : BitVec 64 := w8 bs (8 * j) 8
/-- The first of the blocks is the length; so many of the others. -/
def blocksTo (bs : List UInt8) (n : Nat) : List (BitVec 64) := BitVec.ofNat 64 bs.length :: (List.range n).map (blkAt bs)
def macBlocks (bs : List UInt8) : List (BitVec 64) := blocksTo bs (nblk bs)
theorem blocksTo_succ (bs : List UInt8) (n : Nat) : blocksTo bs (n + 1) = blocksTo bs n ++ [blkAt bs n] := by simp [blocksTo, List.range_succ]
theorem blocksTo_length (bs : List UInt8) (n : Nat) : (blocksTo bs n).length = n + 1 := by simp [blocksTo]
theorem blocksTo_prefix (bs : List UInt8) {n : Nat} (h : n ≤ nblk bs) : blocksTo bs n <+: macBlocks bs := by
  refine ⟨((List.range (nblk bs - n)).map fun i => blkAt bs (n + i)), ?_⟩
  obtain ⟨r, hr⟩ : ∃ r, nblk bs = n + r := ⟨nblk bs - n, by omega⟩
  unfold macBlocks blocksTo
  rw [hr, List.range_add, List.map_append, List.map_map]
  simp [Function.comp_def]
/-- The chain. -/
def chain (k : K4) (m : BitVec 64) (l : List (BitVec 64)) : BitVec 64 := l.foldl (fun m x => Enc k (m ^^^ x)) m
theorem chain_snoc (k : K4) (m : BitVec 64) (l : List (BitVec 64)) (x : BitVec 64) : chain k m (l ++ [x]) = Enc k (chain k m l ^^^ x) := by simp [chain]
theorem chain_append (k : K4) (m : BitVec 64) (l l' : List (BitVec 64)) : chain k m (l ++ l') = chain k (chain k m l) l' := by simp [chain]
theorem xor_inj {n : Nat} {a b c : BitVec n} : a ^^^ c = b ^^^ c ↔ a = b :=
  ⟨fun h => by
    have : (a ^^^ c) ^^^ c = (b ^^^ c) ^^^ c := by rw [h]
    simpa [BitVec.xor_assoc] using this, fun h => by rw [h]⟩
theorem xor_inj' {n : Nat} {a b c : BitVec n} : c ^^^ a = c ^^^ b ↔ a = b := by rw [BitVec.xor_comm c a, BitVec.xor_comm c b]; exact xor_inj
theorem chain_inj (k : K4) (l : List (BitVec 64)) : ∀ m m' : BitVec 64, chain k m l = chain k m' l ↔ m = m' := by
  induction l with
  | nil => intro m m'; rfl
  | cons x l ih =>
    intro m m'
    show chain k (Enc k (m ^^^ x)) l = chain k (Enc k (m' ^^^ x)) l ↔ _
    rw [ih, enc_inj, xor_inj]
def Mac (k : K4) (bs : List UInt8) : BitVec 64 := chain k 0 (macBlocks bs)

/-- A key that is made of another one by two words. -/
def Derive (k : K4) (x y : BitVec 32) : K4 :=
  let a := Enc k (join2 (x, y))
  let b := Enc k (~~~ a)
  ⟨(split2 a).1, (split2 a).2, (split2 b).1, (split2 b).2⟩
theorem derive_inj (k : K4) (x y p q : BitVec 32) : Derive k x y = Derive k p q ↔ x = p ∧ y = q := by
  constructor
  · intro h
    unfold Derive at h
    simp only [K4.mk.injEq] at h
    obtain ⟨h1, h2, _, _⟩ := h
    have h3 := split2_inj (Prod.ext h1 h2)
    have h4 := join2_inj ((enc_inj k).1 h3)
    exact ⟨congrArg Prod.fst h4, congrArg Prod.snd h4⟩
  · rintro ⟨rfl, rfl⟩; rfl
theorem join_mul (x y : BitVec 32) : x.setWidth 64 * (4294967296 : BitVec 64) + y.setWidth 64 = join2 (x, y) := by
  unfold join2
  have e : x.setWidth 64 * (4294967296 : BitVec 64) = x.setWidth 64 <<< 32 := by
    rw [BitVec.shiftLeft_eq_mul_twoPow]
    rfl
  rw [e]
  apply BitVec.add_eq_or_of_and_eq_zero
  apply BitVec.eq_of_getLsbD_eq
  intro i hi
  by_cases h : i < 32
  · simp [h]
  · have : y.getLsbD i = false := BitVec.getLsbD_of_ge y i (by omega)
    simp [this]
theorem not_sub (a : BitVec 64) : 18446744073709551615 - a = ~~~ a := by
  apply BitVec.eq_of_toNat_eq
  have := a.isLt
  rw [BitVec.toNat_sub, BitVec.toNat_not]
  simp
  omega

/-! ### Bytes that are turned within one block -/
theorem p8 : (256 : Nat) ^ 8 = 18446744073709551616 := by simp
theorem p7 : (256 : Nat) ^ 7 = 72057594037927936 := by simp
theorem small8 (x : Nat) (h : x < 72057594037927936) : x * 256 % 18446744073709551616 = x * 256 := Nat.mod_eq_of_lt (by omega)
theorem shl8_nat (z : BitVec 64) : (z <<< 8).toNat = z.toNat * 256 % 18446744073709551616 := by rw [BitVec.toNat_shiftLeft, Nat.shiftLeft_eq]
theorem shr8_nat (z : BitVec 64) : (z >>> 8).toNat = z.toNat / 256 := by rw [BitVec.toNat_ushiftRight, Nat.shiftRight_eq_div_pow]
theorem small_of_back (z : BitVec 64) (hz : z <<< 8 >>> 8 = z) : z.toNat < 72057594037927936 := by
  have := congrArg BitVec.toNat hz
  rw [shr8_nat, shl8_nat] at this
  omega
theorem add_nat (x : BitVec 64) (a : Nat) (hx : x.toNat < 72057594037927936) (ha : a < 256) : (x <<< 8 + BitVec.ofNat 64 a).toNat = x.toNat * 256 + a := by
  rw [BitVec.toNat_add, shl8_nat, small8 _ hx, BitVec.toNat_ofNat]
  omega
theorem getD_right (a l : List UInt8) (n : Nat) : nth (a ++ l) (a.length + n) = nth l n := by
  unfold nth
  rw [List.getD_eq_getElem?_getD, List.getD_eq_getElem?_getD, List.getElem?_append_right (by omega)]
  congr 2; omega
theorem w8_congr (a b : List UInt8) (hl : a.length = b.length) (p : Nat) : ∀ n, (∀ i, i < n → p + i < a.length → nth a (p + i) = nth b (p + i)) → w8 a p n = w8 b p n
  | 0, _ => rfl
  | n + 1, h => by
    have ih := w8_congr a b hl p n (fun i hi => h i (by omega))
    by_cases hp : p + n < a.length
    · rw [w8_in a p n hp, w8_in b p n (by omega), ih, h n (by omega) hp]
    · rw [w8_out a p n hp, w8_out b p n (by omega), ih]
theorem or_low (x y : BitVec 64) (a b : Nat) (ha : a < 256) (hb : b < 256) (hx : x <<< 8 >>> 8 = x) (hy : y <<< 8 >>> 8 = y)
    (h : x <<< 8 ||| BitVec.ofNat 64 a = y <<< 8 ||| BitVec.ofNat 64 b) : x = y ∧ a = b := by
  rw [← shl8_add x a ha, ← shl8_add y b hb] at h
  have h1 := congrArg BitVec.toNat h
  rw [add_nat x a (small_of_back x hx) ha, add_nat y b (small_of_back y hy) hb] at h1
  exact ⟨BitVec.eq_of_toNat_eq (by omega), by omega⟩
theorem w8_small (bs : List UInt8) (p : Nat) : ∀ n, n ≤ 8 → (w8 bs p n).toNat < 256 ^ n
  | 0, _ => by simp [w8]
  | n + 1, h => by
    have ih := w8_small bs p n (by omega)
    have hn7 : 256 ^ n ≤ 72057594037927936 := by rw [← p7]; exact Nat.pow_le_pow_right (by decide) (by omega)
    have hlt : (w8 bs p n).toNat < 72057594037927936 := by omega
    by_cases hq : p + n < bs.length
    · have hb : (nth bs (p + n)).toNat < 256 := (nth bs (p + n)).toNat_lt
      rw [w8_in bs p n hq, ← shl8_add _ _ hb, add_nat _ _ hlt hb, Nat.pow_succ]
      generalize 256 ^ n = q at *
      omega
    · rw [w8_out bs p n hq, shl8_nat, small8 _ hlt, Nat.pow_succ]
      omega
theorem w8_back (bs : List UInt8) (p n : Nat) (h : n < 8) : w8 bs p n <<< 8 >>> 8 = w8 bs p n := by
  apply BitVec.eq_of_toNat_eq
  have hs := w8_small bs p n (by omega)
  have hn7 : 256 ^ n ≤ 72057594037927936 := by rw [← p7]; exact Nat.pow_le_pow_right (by decide) (by omega)
  rw [shr8_nat, shl8_nat, small8 _ (by omega)]
  omega
theorem w8_inj (a b : List UInt8) (hl : a.length = b.length) (p : Nat) : ∀ n, n ≤ 8 → w8 a p n = w8 b p n → ∀ i, i < n → p + i < a.length → nth a (p + i) = nth b (p + i)
  | 0, _, _ => fun i hi => absurd hi (by omega)
  | n + 1, hn, h => by
    have hba := w8_back a p n (by omega)
    have hbb := w8_back b p n (by omega)
    intro i hi hp
    by_cases hq : p + n < a.length
    · rw [w8_in a p n hq, w8_in b p n (by omega)] at h
      obtain ⟨h1, h2⟩ := or_low _ _ _ _ (nth a (p + n)).toNat_lt (nth b (p + n)).toNat_lt hba hbb h
      by_cases he : i = n
      · subst he; exact UInt8.toNat_inj.1 h2
      · exact w8_inj a b hl p n (by omega) h1 i (by omega) hp
    · rw [w8_out a p n hq, w8_out b p n (by omega)] at h
      have h1 : w8 a p n = w8 b p n := by rw [← hba, ← hbb, h]
      exact w8_inj a b hl p n (by omega) h1 i (by omega) hp
/-- Of bytes that differ within one block alone the seals are alike just if the bytes are. -/
theorem mac_turned (k : K4) (a b : List UInt8) (hl : a.length = b.length) (j : Nat) (h : ∀ i, i / 8 ≠ j → nth a i = nth b i) : Mac k a = Mac k b ↔ a = b := by
  refine ⟨fun hm => ?_, fun h => by rw [h]⟩
  have hn : nblk a = nblk b := by unfold nblk; rw [hl]
  have hsame : ∀ i, i ≠ j → blkAt a i = blkAt b i := fun i hi => w8_congr a b hl _ 8 (fun t ht _ => h _ (by omega))
  by_cases hj : j < nblk a
  · obtain ⟨r, hr⟩ : ∃ r, nblk a = j + 1 + r := ⟨nblk a - (j + 1), by omega⟩
    have hsplit : ∀ c : List UInt8, macBlocks c = blocksTo c (nblk c) := fun _ => rfl
    have cut : ∀ c : List UInt8, nblk c = j + 1 + r → macBlocks c = blocksTo c j ++ ([blkAt c j] ++ (List.range r).map fun i => blkAt c (j + 1 + i)) := by
      intro c hc
      unfold macBlocks blocksTo
      rw [hc, List.range_add, List.map_append, List.range_succ, List.map_append, List.map_map]
      simp [Function.comp_def]
    have e1 : blocksTo a j = blocksTo b j := by
      unfold blocksTo
      rw [hl]
      congr 1
      apply List.map_congr_left
      intro i hi
      exact hsame i (by have := List.mem_range.1 hi; omega)
    have e2 : ((List.range r).map fun i => blkAt a (j + 1 + i)) = (List.range r).map fun i => blkAt b (j + 1 + i) := by
      apply List.map_congr_left
      intro i _
      exact hsame _ (by omega)
    unfold Mac at hm
    rw [cut a hr, cut b (hn ▸ hr), e1, e2, chain_append, chain_append, chain_append, chain_append, chain_inj] at hm
    have hb : blkAt a j = blkAt b j := by
      have : Enc k (chain k 0 (blocksTo b j) ^^^ blkAt a j) = Enc k (chain k 0 (blocksTo b j) ^^^ blkAt b j) := hm
      rw [enc_inj, xor_inj'] at this
      exact this
    apply List.ext_getElem hl
    intro i h1 h2
    have hg : nth a i = nth b i := by
      by_cases hij : i / 8 = j
      · have hi : 8 * j + i % 8 = i := by omega
        have := w8_inj a b hl (8 * j) 8 (by omega) hb (i % 8) (by omega) (by omega)
        rwa [hi] at this
      · exact h i hij
    simpa [nth, List.getD_eq_getElem?_getD, h1, h2] using hg
  · apply List.ext_getElem hl
    intro i h1 h2
    have hg : nth a i = nth b i := h i (by unfold nblk at hj; omega)
    simpa [nth, List.getD_eq_getElem?_getD, h1, h2] using hg
/-- One block more. -/
theorem w8_append (a l : List UInt8) (p : Nat) : ∀ n, p + n ≤ a.length → w8 (a ++ l) p n = w8 a p n
  | 0, _ => rfl
  | n + 1, h => by
    have ih := w8_append a l p n (by omega)
    rw [w8_in (a ++ l) p n (by simp; omega), w8_in a p n (by omega), ih]
    congr 3
    simp [nth, List.getD_eq_getElem?_getD, List.getElem?_append_left (by omega : p + n < a.length)]
theorem mac_tail (k : K4) (a l : List UInt8) (q : Nat) (ha : a.length = 8 * q) (hl : l.length ≤ 8) (h0 : 0 < l.length) :
    Mac k (a ++ l) = Enc k (chain k (Enc k (0 ^^^ BitVec.ofNat 64 (a.length + l.length))) ((List.range q).map (blkAt a)) ^^^ blkAt (a ++ l) q) := by
  have hn : nblk (a ++ l) = q + 1 := by unfold nblk; simp; omega
  have e : (List.range q).map (blkAt (a ++ l)) = (List.range q).map (blkAt a) := by
    apply List.map_congr_left
    intro i hi
    exact w8_append a l _ 8 (by have := List.mem_range.1 hi; omega)
  unfold Mac macBlocks
  rw [hn, blocksTo_succ, chain_snoc]
  unfold blocksTo
  rw [e, List.length_append]
  rfl
theorem w8_shift (a b l : List UInt8) (h : a.length = b.length) : ∀ n, w8 (a ++ l) a.length n = w8 (b ++ l) b.length n
  | 0 => rfl
  | n + 1 => by
    have ih := w8_shift a b l h n
    by_cases hq : n < l.length
    · rw [w8_in (a ++ l) _ n (by simp; omega), w8_in (b ++ l) _ n (by simp; omega), ih]
      rw [getD_right, getD_right]
    · rw [w8_out (a ++ l) _ n (by simp; omega), w8_out (b ++ l) _ n (by simp; omega), ih]
/-- With a last part of one block or none, both are alike just if they were ahead of it. -/
theorem mac_grows (k : K4) (a b l z : List UInt8) (hab : a.length = b.length) (h8 : a.length % 8 = 0) (hl : l.length ≤ 8) (hz : z.length = l.length) :
    Mac k (a ++ l) = Mac k (b ++ l) ↔ Mac k (a ++ z) = Mac k (b ++ z) := by
  by_cases h0 : l.length = 0
  · have e1 : l = [] := List.eq_nil_of_length_eq_zero h0
    have e2 : z = [] := List.eq_nil_of_length_eq_zero (by omega)
    rw [e1, e2]
  · have ha : a.length = 8 * (a.length / 8) := by omega
    have hb : b.length = 8 * (a.length / 8) := by omega
    have st : ∀ t : List UInt8, blkAt (a ++ t) (a.length / 8) = blkAt (b ++ t) (a.length / 8) := by
      intro t
      unfold blkAt
      rw [← ha]
      have := w8_shift a b t hab 8
      rw [← hab] at this
      exact this
    rw [mac_tail k a l _ ha hl (by omega), mac_tail k b l _ hb hl (by omega), mac_tail k a z _ ha (by omega) (by omega), mac_tail k b z _ hb (by omega) (by omega),
      enc_inj, enc_inj, st l, st z, xor_inj, xor_inj, hab, hz]
/-- The chapter's examples. -/
theorem mac_nil (k : K4) : Mac k [] = Enc k 0 := by
  show Enc k (0 ^^^ BitVec.ofNat 64 0) = _
  rfl
theorem mac_seven (k : K4) : Mac k [7] = Enc k (Enc k 1 ^^^ 0x0700000000000000) := by
  show Enc k (Enc k (0 ^^^ BitVec.ofNat 64 1) ^^^ blkAt [7] 0) = _
  have : blkAt [7] 0 = 0x0700000000000000 := by decide
  rw [this]
  rfl
end Go.Proofs.Ytchjcfbhpgigjaa
