/- Texts in one: PduMath Cipher. -/
import Derived.Test.YtpjdcpicfkdioaaGreatDoorK01
import Derived.Test.YtpjdcpicfkdioaaGreatDoorChecked
import Derived.Deep.QuietTactic
import Derived.BigQuiet
import Derived.Lib.Hide
/- What goes over the radio, in plain Lean: the document's words; what any bytes are; that a turned byte is found out. -/
set_option linter.unusedSimpArgs false
set_option linter.unusedVariables false
namespace Go.Proofs.YtpjdcpicfkdioaaGreatDoor

/-- The byte i from below of a number. -/
def byteAt (x i : Nat) : UInt8 := UInt8.ofNat (x / 256 ^ i % 256)
/-- A number in n bytes, the highest first. -/
def be : Nat → Nat → List UInt8
  | 0, _ => []
  | n + 1, x => byteAt x n :: be n x
/-- The number that some bytes are. -/
def num (bs : List UInt8) : Nat := bs.foldl (fun n b => n * 256 + b.toNat) 0
theorem be_length (n x : Nat) : (be n x).length = n := by
  induction n with
  | zero => rfl
  | succ n ih => simp [be, ih]
theorem num_foldl (bs : List UInt8) : ∀ a, bs.foldl (fun n b => n * 256 + b.toNat) a = a * 256 ^ bs.length + num bs := by
  induction bs with
  | nil => intro a; simp [num]
  | cons b bs ih =>
    intro a
    simp only [num, List.foldl_cons, List.length_cons, Nat.zero_mul, Nat.zero_add]
    rw [ih, ih b.toNat, Nat.pow_succ, Nat.add_mul, Nat.mul_assoc, Nat.mul_comm 256, Nat.add_assoc]
theorem num_cons (b : UInt8) (bs : List UInt8) : num (b :: bs) = b.toNat * 256 ^ bs.length + num bs := by
  show List.foldl _ (0 * 256 + b.toNat) bs = _
  rw [num_foldl]; simp
theorem byteAt_toNat (x i : Nat) : (byteAt x i).toNat = x / 256 ^ i % 256 := by
  unfold byteAt
  rw [UInt8.toNat_ofNat']
  omega
theorem num_be (n x : Nat) : num (be n x) = x % 256 ^ n := by
  induction n with
  | zero => simp [be, num, Nat.mod_one]
  | succ n ih =>
    rw [be, num_cons, be_length, ih, byteAt_toNat]
    rw [Nat.pow_succ, Nat.mod_mul, Nat.mul_comm, Nat.add_comm]
theorem be_mod (n x : Nat) : be n (x % 256 ^ n) = be n x := by
  have key : ∀ m, m ≤ n → be m (x % 256 ^ n) = be m x := by
    intro m
    induction m with
    | zero => intro _; rfl
    | succ m ih =>
      intro hm
      simp only [be]
      rw [ih (by omega)]
      congr 1
      unfold byteAt
      congr 1
      have e : 256 ^ n = 256 ^ m * (256 * 256 ^ (n - m - 1)) := by
        rw [← Nat.mul_assoc, ← Nat.pow_succ, ← Nat.pow_add]
        congr 1; omega
      rw [e, Nat.mod_mul_right_div_self, Nat.mod_mul_right_mod]
  exact key n (Nat.le_refl _)
theorem be_inj {n x y : Nat} (hx : x < 256 ^ n) (hy : y < 256 ^ n) (h : be n x = be n y) : x = y := by
  have := congrArg num h
  rw [num_be, num_be, Nat.mod_eq_of_lt hx, Nat.mod_eq_of_lt hy] at this
  exact this
theorem be_add (m n x : Nat) : be (m + n) x = be m (x / 256 ^ n) ++ be n x := by
  induction m with
  | zero => simp [be]
  | succ m ih =>
    rw [show m + 1 + n = (m + n) + 1 by omega]
    simp only [be, List.cons_append, ih]
    congr 1
    unfold byteAt
    rw [Nat.div_div_eq_div_mul, ← Nat.pow_add, Nat.add_comm n m]

/-- A PDU. -/
structure P7 where
  kind : Int
  dir : Int
  train : Int
  a : BitVec 32
  b : BitVec 32
  body : List UInt8
  mac : BitVec 64
deriving DecidableEq
def P7.none_ : P7 := ⟨0, 0, 0, 0, 0, [], 0⟩
/-- P9.1. -/
def MayP (p : P7) : Prop :=
  0 ≤ p.train ∧ p.train < 16777216 ∧ 0 ≤ p.dir ∧ p.dir ≤ 1 ∧
  ((p.kind = 1 ∧ p.dir = 0 ∧ p.b = 0 ∧ p.mac = 0 ∧ p.body.length = 0) ∨ (p.kind = 2 ∧ p.dir = 1 ∧ p.body.length = 0) ∨ (p.kind = 3 ∧ p.dir = 0 ∧ p.body.length = 0) ∨
   (p.kind = 5 ∧ p.a = 0 ∧ 1 ≤ p.body.length ∧ p.body.length ≤ 1023) ∨ (p.kind = 6 ∧ p.a = 0 ∧ p.body.length = 1))
instance (p : P7) : Decidable (MayP p) := by unfold MayP; infer_instance
def may (p : P7) : Bool := decide (MayP p)
theorem may_iff {p : P7} : may p = true ↔ MayP p := by simp [may]
/-- The document's text. -/
def textB (p : P7) : List UInt8 :=
  be 1 (2 * p.kind + p.dir).toNat ++ be 3 p.train.toNat ++ (if p.kind ≤ 3 then be 4 p.a.toNat else []) ++ (if 2 ≤ p.kind then be 4 p.b.toNat else []) ++ (if p.kind = 5 then be 2 p.body.length else []) ++ p.body
def text (p : P7) : List UInt8 := if may p then textB p else []
def enc (p : P7) : List UInt8 := if may p then textB p ++ (if 1 < p.kind then be 8 p.mac.toNat else []) else []

theorem cut_mid (A B C : List UInt8) (i n : Nat) (hi : A.length = i) (hn : B.length = n) : ((A ++ (B ++ C)).drop i).take n = B := by
  subst hi; subst hn; simp
theorem cut_from (A B : List UInt8) (i : Nat) (hi : A.length = i) : (A ++ B).drop i = B := by
  subst hi; simp
/-- The head of four bytes, and what stands behind it. -/
def tailB (p : P7) : List UInt8 :=
  if p.kind = 1 then be 4 p.a.toNat else if p.kind ≤ 3 then be 4 p.a.toNat ++ (be 4 p.b.toNat ++ be 8 p.mac.toNat) else if p.kind = 5 then be 4 p.b.toNat ++ (be 2 p.body.length ++ (p.body ++ be 8 p.mac.toNat)) else be 4 p.b.toNat ++ (p.body ++ be 8 p.mac.toNat)
theorem enc_eq (p : P7) (h : may p = true) : enc p = be 1 (2 * p.kind + p.dir).toNat ++ (be 3 p.train.toNat ++ tailB p) := by
  have hm := may_iff.1 h
  obtain ⟨k, d, t, a, b, body, mac⟩ := p
  simp only [enc, h, if_true, textB, tailB]
  unfold MayP at hm
  simp only at hm ⊢
  rcases hm.2.2.2.2 with ⟨rfl, _, _, _, hl⟩ | ⟨rfl, _, hl⟩ | ⟨rfl, _, hl⟩ | ⟨rfl, _, _, _⟩ | ⟨rfl, _, _⟩
  · rw [List.eq_nil_of_length_eq_zero hl]; simp
  · rw [List.eq_nil_of_length_eq_zero hl]; simp
  · rw [List.eq_nil_of_length_eq_zero hl]; simp
  · simp
  · simp
/-- What the program takes bytes for. -/
def restI (k : Nat) (d t first : Nat) (rest : List UInt8) : Option P7 :=
  if k = 1 then some ⟨1, d, t, BitVec.ofNat 32 first, 0, [], 0⟩
  else if rest.length < 8 then none
  else
    let mac := BitVec.ofNat 64 (num (rest.drop (rest.length - 8)))
    let r := rest.take (rest.length - 8)
    if k = 2 ∨ k = 3 then some ⟨k, d, t, BitVec.ofNat 32 first, BitVec.ofNat 32 (num (r.take (min 4 r.length))), [], mac⟩
    else if k = 5 then some ⟨5, d, t, 0, BitVec.ofNat 32 first, r.drop (min 2 r.length), mac⟩
    else if k = 6 then some ⟨6, d, t, 0, BitVec.ofNat 32 first, r, mac⟩
    else some ⟨k, d, t, 0, 0, [], mac⟩
def candI (bs : List UInt8) : Option P7 :=
  if bs.length < 8 then none
  else restI ((nth bs 0).toNat / 2) ((nth bs 0).toNat % 2) (num ((bs.drop 1).take 3)) (num ((bs.drop 4).take 4)) (bs.drop 8)
def decI (bs : List UInt8) : Option P7 := match candI bs with
  | some q => if may q = true ∧ enc q = bs then some q else none
  | none => none
theorem ofNat_toNat32 (a : BitVec 32) : BitVec.ofNat 32 a.toNat = a := by simp
theorem num_word (a : BitVec 32) : num (be 4 a.toNat) = a.toNat := by
  rw [num_be, Nat.mod_eq_of_lt]
  have := a.isLt
  simpa using this
theorem num_long (a : BitVec 64) : num (be 8 a.toNat) = a.toNat := by
  rw [num_be, Nat.mod_eq_of_lt]
  have := a.isLt
  simpa using this
theorem nth_head (x : Nat) (l : List UInt8) (hx : x < 256) : (nth (be 1 x ++ l) 0).toNat = x := by
  show (byteAt x 0).toNat = x
  rw [byteAt_toNat]
  simp; omega
theorem candI_enc (p : P7) (h : may p = true) : candI (enc p) = some p := by
  have hm := may_iff.1 h
  rw [enc_eq p h]
  obtain ⟨k, d, t, a, b, body, mac⟩ := p
  unfold MayP at hm
  simp only [tailB] at hm ⊢
  obtain ⟨h1, h2, h3, h4, h5⟩ := hm
  obtain ⟨t, rfl⟩ : ∃ n : Nat, t = n := ⟨t.toNat, by omega⟩
  obtain ⟨d, rfl⟩ : ∃ n : Nat, d = n := ⟨d.toNat, by omega⟩
  have ht : num (be 3 (t : Int).toNat) = t := by rw [num_be, Nat.mod_eq_of_lt] <;> simp <;> omega
  have go : ∀ (kn : Nat) (tl4 tl : List UInt8), kn ≤ 6 → tl4.length = 4 → candI (be 1 (2 * (kn : Int) + d).toNat ++ (be 3 (t : Int).toNat ++ (tl4 ++ tl))) = restI kn d t (num tl4) tl := by
    intro kn tl4 tl hk hl
    have e0 : (2 * (kn : Int) + d).toNat = 2 * kn + d := by omega
    rw [e0]
    unfold candI
    have e1 : ¬ ((be 1 (2 * kn + d) ++ (be 3 (t : Int).toNat ++ (tl4 ++ tl))).length < 8) := by simp [be_length, hl]; omega
    rw [if_neg e1, nth_head _ _ (by omega), cut_mid _ _ _ 1 3 (be_length _ _) (be_length _ _), ht]
    have e2 : be 1 (2 * kn + d) ++ (be 3 (t : Int).toNat ++ (tl4 ++ tl)) = (be 1 (2 * kn + d) ++ be 3 (t : Int).toNat) ++ (tl4 ++ tl) := by simp
    rw [e2, cut_mid _ _ _ 4 4 (by simp [be_length]) hl]
    have e3 : (be 1 (2 * kn + d) ++ be 3 (t : Int).toNat) ++ (tl4 ++ tl) = ((be 1 (2 * kn + d) ++ be 3 (t : Int).toNat) ++ tl4) ++ tl := by simp
    rw [e3, cut_from _ _ 8 (by simp [be_length, hl])]
    rw [show (2 * kn + d) / 2 = kn by omega, show (2 * kn + d) % 2 = d by omega]
  have d8 : ∀ (X : List UInt8), (X ++ be 8 mac.toNat).drop ((X ++ be 8 mac.toNat).length - 8) = be 8 mac.toNat := fun X => cut_from _ _ _ (by simp [be_length])
  have t8 : ∀ (X : List UInt8), (X ++ be 8 mac.toNat).take ((X ++ be 8 mac.toNat).length - 8) = X := fun X => by
    have : (X ++ be 8 mac.toNat).length - 8 = X.length := by simp [be_length]
    rw [this]; simp
  rcases h5 with ⟨rfl, hd, rfl, rfl, hl⟩ | ⟨rfl, hd, hl⟩ | ⟨rfl, hd, hl⟩ | ⟨rfl, rfl, hl1, hl2⟩ | ⟨rfl, rfl, hl⟩
  · have := go 1 (be 4 a.toNat) [] (by omega) (be_length _ _)
    simp only [List.append_nil] at this
    simp only [if_true]
    rw [show ((1 : Nat) : Int) = 1 from rfl] at this
    rw [this, List.eq_nil_of_length_eq_zero hl]
    simp [restI, num_word]
  · have := go 2 (be 4 a.toNat) (be 4 b.toNat ++ be 8 mac.toNat) (by omega) (be_length _ _)
    rw [show ((2 : Nat) : Int) = 2 from rfl] at this
    simp only [show ¬ ((2 : Int) = 1) by decide, if_false, show (2 : Int) ≤ 3 by decide, if_true]
    rw [this, List.eq_nil_of_length_eq_zero hl]
    unfold restI
    rw [if_neg (by decide), if_neg (by simp [be_length]), d8, t8]
    simp [num_word, num_long, be_length, List.take_of_length_le]
  · have := go 3 (be 4 a.toNat) (be 4 b.toNat ++ be 8 mac.toNat) (by omega) (be_length _ _)
    rw [show ((3 : Nat) : Int) = 3 from rfl] at this
    simp only [show ¬ ((3 : Int) = 1) by decide, if_false, show (3 : Int) ≤ 3 by decide, if_true]
    rw [this, List.eq_nil_of_length_eq_zero hl]
    unfold restI
    rw [if_neg (by decide), if_neg (by simp [be_length]), d8, t8]
    simp [num_word, num_long, be_length, List.take_of_length_le]
  · have := go 5 (be 4 b.toNat) ((be 2 body.length ++ body) ++ be 8 mac.toNat) (by omega) (be_length _ _)
    rw [show ((5 : Nat) : Int) = 5 from rfl, List.append_assoc (be 2 body.length)] at this
    simp only [show ¬ ((5 : Int) = 1) by decide, if_false, show ¬ ((5 : Int) ≤ 3) by decide, if_true]
    rw [this, ← List.append_assoc]
    unfold restI
    rw [if_neg (by decide), if_neg (by simp [be_length]; omega), d8, t8]
    simp [num_word, num_long, be_length]
  · have := go 6 (be 4 b.toNat) (body ++ be 8 mac.toNat) (by omega) (be_length _ _)
    rw [show ((6 : Nat) : Int) = 6 from rfl] at this
    simp only [show ¬ ((6 : Int) = 1) by decide, if_false, show ¬ ((6 : Int) ≤ 3) by decide, show ¬ ((6 : Int) = 5) by decide]
    rw [this]
    unfold restI
    rw [if_neg (by decide), if_neg (by simp [be_length]), d8, t8]
    simp [num_word, num_long]
theorem decI_spec (bs : List UInt8) (q : P7) : decI bs = some q ↔ may q = true ∧ enc q = bs := by
  constructor
  · intro h
    unfold decI at h
    cases hc : candI bs with
    | none => rw [hc] at h; cases h
    | some x =>
      rw [hc] at h
      simp only at h
      by_cases hx : may x = true ∧ enc x = bs
      · rw [if_pos hx] at h
        injection h with h
        subst h
        exact hx
      · rw [if_neg hx] at h; cases h
  · rintro ⟨h1, rfl⟩
    unfold decI
    rw [candI_enc q h1]
    simp [h1]
theorem enc_inj' {p q : P7} (hp : may p = true) (hq : may q = true) (h : enc p = enc q) : p = q := by
  have h1 := candI_enc p hp
  rw [h, candI_enc q hq] at h1
  injection h1 with h1
  exact h1.symm

/-- What the document takes bytes for. -/
def getR (bs : List UInt8) (at_ : Int) (many : Nat) : Nat := if at_ < 0 ∨ (bs.length : Int) < at_ + many then 0 else num ((bs.drop at_.toNat).take many)
def bodyR (bs : List UInt8) (from_ : Nat) : List UInt8 := if (from_ : Int) < (bs.length : Int) - 8 then (bs.drop from_).take (bs.length - 8 - from_) else []
def candR (bs : List UInt8) : Option P7 :=
  if bs.length < 1 then none
  else
    let k := (nth bs 0).toNat / 2
    let d := (nth bs 0).toNat % 2
    let t := getR bs 1 3
    let mac := BitVec.ofNat 64 (getR bs ((bs.length : Int) - 8) 8)
    if k = 1 then some ⟨1, d, t, BitVec.ofNat 32 (getR bs 4 4), 0, [], 0⟩
    else if k = 2 ∨ k = 3 then some ⟨k, d, t, BitVec.ofNat 32 (getR bs 4 4), BitVec.ofNat 32 (getR bs 8 4), [], mac⟩
    else if k = 5 then some ⟨5, d, t, 0, BitVec.ofNat 32 (getR bs 4 4), bodyR bs 10, mac⟩
    else if k = 6 then some ⟨6, d, t, 0, BitVec.ofNat 32 (getR bs 4 4), bodyR bs 8, mac⟩
    else some ⟨k, d, t, 0, 0, [], 0⟩
def decR (bs : List UInt8) : Option P7 := match candR bs with
  | some q => if may q = true ∧ enc q = bs then some q else none
  | none => none
theorem getR_mid (A B C : List UInt8) (i n : Nat) (hi : A.length = i) (hn : B.length = n) : getR (A ++ (B ++ C)) (i : Int) n = num B := by
  unfold getR
  rw [if_neg (by simp; omega), Int.toNat_natCast, cut_mid A B C i n hi hn]
theorem candR_enc (p : P7) (h : may p = true) : candR (enc p) = some p := by
  have hm := may_iff.1 h
  rw [enc_eq p h]
  obtain ⟨k, d, t, a, b, body, mac⟩ := p
  unfold MayP at hm
  simp only [tailB] at hm ⊢
  obtain ⟨h1, h2, h3, h4, h5⟩ := hm
  obtain ⟨t, rfl⟩ : ∃ n : Nat, t = n := ⟨t.toNat, by omega⟩
  obtain ⟨d, rfl⟩ : ∃ n : Nat, d = n := ⟨d.toNat, by omega⟩
  have ht : num (be 3 (t : Int).toNat) = t := by rw [num_be, Nat.mod_eq_of_lt] <;> simp <;> omega
  -- the bytes, however they are cut
  have head : ∀ (kn : Nat) (tl : List UInt8), kn ≤ 6 → (nth (be 1 (2 * (kn : Int) + d).toNat ++ (be 3 (t : Int).toNat ++ tl)) 0).toNat = 2 * kn + d := by
    intro kn tl hk
    have e0 : (2 * (kn : Int) + d).toNat = 2 * kn + d := by omega
    rw [e0, nth_head _ _ (by omega)]
  have gt : ∀ (x : Nat) (tl : List UInt8), getR (be 1 x ++ (be 3 (t : Int).toNat ++ tl)) 1 3 = t := by
    intro x tl
    have := getR_mid (be 1 x) (be 3 (t : Int).toNat) tl 1 3 (be_length _ _) (be_length _ _)
    rw [show ((1 : Nat) : Int) = 1 from rfl] at this
    rw [this, ht]
  have g4 : ∀ (x : Nat) (y tl : List UInt8), y.length = 4 → getR (be 1 x ++ (be 3 (t : Int).toNat ++ (y ++ tl))) 4 4 = num y := by
    intro x y tl hy
    have := getR_mid (be 1 x ++ be 3 (t : Int).toNat) y tl 4 4 (by simp [be_length]) hy
    rw [show ((4 : Nat) : Int) = 4 from rfl] at this
    simpa using this
  have g8 : ∀ (x : Nat) (y z tl : List UInt8), y.length = 4 → z.length = 4 → getR (be 1 x ++ (be 3 (t : Int).toNat ++ (y ++ (z ++ tl)))) 8 4 = num z := by
    intro x y z tl hy hz
    have := getR_mid ((be 1 x ++ be 3 (t : Int).toNat) ++ y) z tl 8 4 (by simp [be_length, hy]) hz
    rw [show ((8 : Nat) : Int) = 8 from rfl] at this
    simpa using this
  have gm : ∀ (X : List UInt8), getR (X ++ be 8 mac.toNat) (((X ++ be 8 mac.toNat).length : Int) - 8) 8 = mac.toNat := by
    intro X
    have := getR_mid X (be 8 mac.toNat) [] X.length 8 rfl (be_length _ _)
    rw [List.append_nil] at this
    have e : (((X ++ be 8 mac.toNat).length : Int) - 8) = X.length := by simp [be_length]
    rw [e, this, num_long]
  have hb : ∀ (X : List UInt8) (n : Nat), X.length = n → bodyR (X ++ (body ++ be 8 mac.toNat)) n = body := by
    intro X n hX
    unfold bodyR
    by_cases h0 : body.length = 0
    · rw [if_neg (by simp [be_length]; omega), List.eq_nil_of_length_eq_zero h0]
    · rw [if_pos (by simp [be_length]; omega)]
      have := cut_mid X body (be 8 mac.toNat) n body.length hX rfl
      have e : (X ++ (body ++ be 8 mac.toNat)).length - 8 - n = body.length := by simp [be_length]; omega
      rw [e, this]
  rcases h5 with ⟨rfl, hd, rfl, rfl, hl⟩ | ⟨rfl, hd, hl⟩ | ⟨rfl, hd, hl⟩ | ⟨rfl, rfl, hl1, hl2⟩ | ⟨rfl, rfl, hl⟩
  · have e := head 1 (be 4 a.toNat) (by omega)
    rw [show ((1 : Nat) : Int) = 1 from rfl] at e
    have e4 := g4 (2 * 1 + (d : Int)).toNat (be 4 a.toNat) [] (be_length _ _)
    rw [List.append_nil] at e4
    simp only [if_true]
    unfold candR
    rw [if_neg (by simp [be_length])]
    simp only [e, gt, e4, num_word]
    rw [if_pos (by omega), List.eq_nil_of_length_eq_zero hl]
    simp; omega
  · have e := head 2 (be 4 a.toNat ++ (be 4 b.toNat ++ be 8 mac.toNat)) (by omega)
    rw [show ((2 : Nat) : Int) = 2 from rfl] at e
    have em := gm (be 1 (2 * 2 + (d : Int)).toNat ++ (be 3 (t : Int).toNat ++ (be 4 a.toNat ++ be 4 b.toNat)))
    simp only [List.append_assoc] at em
    simp only [show ¬ ((2 : Int) = 1) by decide, if_false, show (2 : Int) ≤ 3 by decide, if_true]
    unfold candR
    rw [if_neg (by simp [be_length])]
    simp only [e, gt, g4 _ _ _ (be_length _ _), g8 _ _ _ _ (be_length _ _) (be_length _ _), em, num_word]
    rw [if_neg (by omega), if_pos (by omega), List.eq_nil_of_length_eq_zero hl]
    simp; omega
  · have e := head 3 (be 4 a.toNat ++ (be 4 b.toNat ++ be 8 mac.toNat)) (by omega)
    rw [show ((3 : Nat) : Int) = 3 from rfl] at e
    have em := gm (be 1 (2 * 3 + (d : Int)).toNat ++ (be 3 (t : Int).toNat ++ (be 4 a.toNat ++ be 4 b.toNat)))
    simp only [List.append_assoc] at em
    simp only [show ¬ ((3 : Int) = 1) by decide, if_false, show (3 : Int) ≤ 3 by decide, if_true]
    unfold candR
    rw [if_neg (by simp [be_length])]
    simp only [e, gt, g4 _ _ _ (be_length _ _), g8 _ _ _ _ (be_length _ _) (be_length _ _), em, num_word]
    rw [if_neg (by omega), if_pos (by omega), List.eq_nil_of_length_eq_zero hl]
    simp; omega
  · have e := head 5 (be 4 b.toNat ++ (be 2 body.length ++ (body ++ be 8 mac.toNat))) (by omega)
    rw [show ((5 : Nat) : Int) = 5 from rfl] at e
    have em := gm (be 1 (2 * 5 + (d : Int)).toNat ++ (be 3 (t : Int).toNat ++ (be 4 b.toNat ++ (be 2 body.length ++ body))))
    have eb := hb (be 1 (2 * 5 + (d : Int)).toNat ++ (be 3 (t : Int).toNat ++ (be 4 b.toNat ++ be 2 body.length))) 10 (by simp [be_length])
    simp only [List.append_assoc] at em eb
    simp only [show ¬ ((5 : Int) = 1) by decide, if_false, show ¬ ((5 : Int) ≤ 3) by decide, if_true]
    unfold candR
    rw [if_neg (by simp [be_length])]
    simp only [e, gt, g4 _ _ _ (be_length _ _), em, eb, num_word]
    rw [if_neg (by omega), if_neg (by omega), if_pos (by omega)]
    simp; omega
  · have e := head 6 (be 4 b.toNat ++ (body ++ be 8 mac.toNat)) (by omega)
    rw [show ((6 : Nat) : Int) = 6 from rfl] at e
    have em := gm (be 1 (2 * 6 + (d : Int)).toNat ++ (be 3 (t : Int).toNat ++ (be 4 b.toNat ++ body)))
    have eb := hb (be 1 (2 * 6 + (d : Int)).toNat ++ (be 3 (t : Int).toNat ++ be 4 b.toNat)) 8 (by simp [be_length])
    simp only [List.append_assoc] at em eb
    simp only [show ¬ ((6 : Int) = 1) by decide, if_false, show ¬ ((6 : Int) ≤ 3) by decide, show ¬ ((6 : Int) = 5) by decide]
    unfold candR
    rw [if_neg (by simp [be_length])]
    simp only [e, gt, g4 _ _ _ (be_length _ _), em, eb, num_word]
    rw [if_neg (by omega), if_neg (by omega), if_neg (by omega), if_pos (by omega)]
    simp; omega
theorem decR_spec (bs : List UInt8) (q : P7) : decR bs = some q ↔ may q = true ∧ enc q = bs := by
  constructor
  · intro h
    unfold decR at h
    cases hc : candR bs with
    | none => rw [hc] at h; cases h
    | some x =>
      rw [hc] at h
      simp only at h
      by_cases hx : may x = true ∧ enc x = bs
      · rw [if_pos hx] at h
        injection h with h
        subst h
        exact hx
      · rw [if_neg hx] at h; cases h
  · rintro ⟨h1, rfl⟩
    unfold decR
    rw [candR_enc q h1]
    simp [h1]
theorem dec_same (bs : List UInt8) : decI bs = decR bs := by
  cases h : decI bs with
  | some q => exact ((decR_spec bs q).2 ((decI_spec bs q).1 h)).symm
  | none =>
    cases h2 : decR bs with
    | none => rfl
    | some q => rw [(decI_spec bs q).2 ((decR_spec bs q).1 h2)] at h; cases h
/-- Sealed. -/
def right7 (k : K4) (p : P7) : Bool := may p && decide (p.kind ≠ 1) && (Mac k (text p) == p.mac)
theorem nth_set_self (l : List UInt8) (i : Nat) (x : UInt8) (hi : i < l.length) : nth (l.set i x) i = x := by
  simp [nth, List.getD_eq_getElem?_getD, hi]
theorem nth_set_ne (l : List UInt8) (i j : Nat) (x : UInt8) (h : i ≠ j) : nth (l.set i x) j = nth l j := by
  simp [nth, List.getD_eq_getElem?_getD, List.getElem?_set_ne h]
/-- With one byte turned it is none, or not right. -/
theorem turned (k : K4) (s q : P7) (hs : right7 k s = true) (hq : right7 k q = true) (i : Nat) (x : UInt8) (hi : i < (enc s).length) (hx : x ≠ nth (enc s) i) : enc q ≠ (enc s).set i x := by
  intro h
  simp only [right7, Bool.and_eq_true, decide_eq_true_eq, beq_iff_eq] at hs hq
  obtain ⟨⟨s1, s2⟩, s3⟩ := hs
  obtain ⟨⟨q1, q2⟩, q3⟩ := hq
  have hk : ∀ p : P7, may p = true → p.kind ≠ 1 → enc p = textB p ++ be 8 p.mac.toNat ∧ text p = textB p := by
    intro p hp h1
    have hm := may_iff.1 hp
    have : 1 < p.kind := by unfold MayP at hm; omega
    exact ⟨by simp [enc, hp, this], by simp [text, hp]⟩
  obtain ⟨es, ts⟩ := hk s s1 s2
  obtain ⟨eq, tq⟩ := hk q q1 q2
  rw [ts] at s3
  rw [tq] at q3
  have hlen : (textB q).length = (textB s).length := by
    have := congrArg List.length h
    rw [List.length_set, es, eq] at this
    simp [be_length] at this
    exact this
  have same : textB q = textB s ∧ q.mac = s.mac := by
    by_cases hlt : i < (textB s).length
    · have h1 : textB q ++ be 8 q.mac.toNat = (textB s).set i x ++ be 8 s.mac.toNat := by
        rw [← eq, h, es, List.set_append_left _ _ hlt]
      obtain ⟨h2, h3⟩ := List.append_inj h1 (by simpa using hlen)
      have hm : q.mac = s.mac := BitVec.eq_of_toNat_eq (be_inj (by have := q.mac.isLt; simpa using this) (by have := s.mac.isLt; simpa using this) h3)
      refine ⟨?_, hm⟩
      have hM : Mac k (textB q) = Mac k (textB s) := by rw [q3, s3, hm]
      refine (mac_turned k (textB q) (textB s) hlen (i / 8) ?_).1 hM
      intro j hj
      rw [h2]
      exact nth_set_ne _ _ _ _ (by intro e; subst e; exact hj rfl)
    · have h1 : textB q ++ be 8 q.mac.toNat = textB s ++ (be 8 s.mac.toNat).set (i - (textB s).length) x := by
        rw [← eq, h, es, List.set_append_right _ _ (by omega)]
      obtain ⟨h2, _⟩ := List.append_inj h1 hlen
      exact ⟨h2, by rw [← q3, ← s3, h2]⟩
  have e : enc q = enc s := by rw [eq, es, same.1, same.2]
  rw [e] at h
  have := nth_set_self (enc s) i x hi
  rw [← h] at this
  exact hx this.symm
end Go.Proofs.YtpjdcpicfkdioaaGreatDoor
/- The cipher's walks: rotations, the keys of the rounds, the blocks there and back. -/
namespace Go.Proofs.YtpjdcpicfkdioaaGreatDoor
open Go.RowKit

theorem k_m8 : bits .and .u64 (IntKind.u64.wrap (-8)) 31 = 24 := by decide
theorem k_m3 : bits .and .u64 (IntKind.u64.wrap (-3)) 31 = 29 := by decide
theorem k_3 : bits .and .u64 3 31 = 3 := by decide
theorem k_8 : bits .and .u64 8 31 = 8 := by decide
theorem rot_m8 (x : BitVec 32) (w : World) : Calls Tryz.prog 226 #[q32 x, .int .i64 (-8)] w fun e w' => e = .returned (q32 (x.rotateLeft 24)) ∧ w = w' := by
  have h := k_m8
  go_enter Tryz.func226, Tryz.ntmps226
  go_wp2
  go_ret
  exact ⟨by rw [← rot24]; rfl, rfl⟩
theorem rot_m3 (x : BitVec 32) (w : World) : Calls Tryz.prog 226 #[q32 x, .int .i64 (-3)] w fun e w' => e = .returned (q32 (x.rotateLeft 29)) ∧ w = w' := by
  have h := k_m3
  go_enter Tryz.func226, Tryz.ntmps226
  go_wp2
  go_ret
  exact ⟨by rw [← rot29]; rfl, rfl⟩
theorem rot_3 (x : BitVec 32) (w : World) : Calls Tryz.prog 226 #[q32 x, .int .i64 3] w fun e w' => e = .returned (q32 (x.rotateLeft 3)) ∧ w = w' := by
  have h := k_3
  go_enter Tryz.func226, Tryz.ntmps226
  go_wp2
  go_ret
  exact ⟨by rw [← rot3]; rfl, rfl⟩
theorem rot_8 (x : BitVec 32) (w : World) : Calls Tryz.prog 226 #[q32 x, .int .i64 8] w fun e w' => e = .returned (q32 (x.rotateLeft 8)) ∧ w = w' := by
  have h := k_8
  go_enter Tryz.func226, Tryz.ntmps226
  go_wp2
  go_ret
  exact ⟨by rw [← rot8]; rfl, rfl⟩

/-- A key as a value. -/
def keyV (k : K4) : Value := .agg #[q32 k.k0, q32 k.k1, q32 k.k2, q32 k.k3]
/-- The row of the keys of the rounds, as far as it is filled. -/
def outA (k : K4) (i : Nat) : Array Value := ((List.range 27).map fun j => if j < i then q32 (rk k j) else q32 0).toArray
/-- The three words of the schedule, as the program keeps them. -/
def lA (k : K4) (i : Nat) : Array Value := ((List.range 3).map fun j => q32 (lk k (i + (j + 3 - i % 3) % 3))).toArray
theorem outA_size (k : K4) (i : Nat) : (outA k i).size = 27 := by simp [outA]
theorem outA_set (k : K4) (i : Nat) : (outA k i).setIfInBounds i (q32 (rk k i)) = outA k (i + 1) := by
  apply Array.ext
  · simp [outA]
  · intro j h1 h2
    simp only [outA, List.size_toArray, List.length_map, List.length_range] at h2
    simp only [outA, List.getElem_toArray, List.getElem_map, List.getElem_range]
    by_cases h : i = j
    · subst h; simp
    · by_cases hj : j < i
      · simp [h, hj]; omega
      · simp [h, hj]; omega
theorem outA_one (k : K4) (i : Nat) : (outA k i).all (·.oneCell') = true := by
  rw [Array.all_eq_true_iff_forall_mem]
  intro v hv
  simp only [outA, List.mem_toArray, List.mem_map] at hv
  obtain ⟨j, _, rfl⟩ := hv
  split <;> rfl
theorem outA_at (k : K4) (i j : Nat) (hj : j < 27) : (outA k i)[j]? = some (if j < i then q32 (rk k j) else q32 0) := by
  simp [outA, hj]
theorem outA_full (k : K4) (j : Nat) (hj : j < 27) : (outA k 27)[j]? = some (q32 (rk k j)) := by
  rw [outA_at k 27 j hj, if_pos hj]
theorem lA_at (k : K4) (i : Nat) : (lA k i)[i % 3]? = some (q32 (lk k i)) := by
  have h : i % 3 < 3 := Nat.mod_lt _ (by decide)
  have e : (i % 3 + 3 - i % 3) % 3 = 0 := by omega
  simp [lA, h]
theorem lA_set (k : K4) (i : Nat) : (lA k i).setIfInBounds (i % 3) (q32 (lk k (i + 3))) = lA k (i + 1) := by
  apply Array.ext
  · simp [lA]
  · intro j h1 h2
    have hj : j < 3 := by simpa [lA] using h2
    by_cases h : i % 3 = j
    · subst h
      have e : i + 3 = i + 1 + (i % 3 + 3 - (i + 1) % 3) % 3 := by omega
      simp only [lA, List.setIfInBounds_toArray, List.getElem_toArray, List.getElem_set_self, List.getElem_map, List.getElem_range]
      rw [← e]
    · have e : i + (j + 3 - i % 3) % 3 = i + 1 + (j + 3 - (i + 1) % 3) % 3 := by omega
      simp only [lA, List.setIfInBounds_toArray, List.getElem_toArray, List.getElem_set_ne h, List.getElem_map, List.getElem_range]
      rw [e]
set_option maxHeartbeats 1000000 in
theorem rounds_k (k : K4) (w : World) : Calls Tryz.prog 225 #[.agg #[q32 k.k0, q32 k.k1, q32 k.k2, q32 k.k3]] w fun e w' => e = .returned (.agg (outA k 27)) ∧ Below w.heap.size w w' := by
  go_enter Tryz.func225, Tryz.ntmps225
  go_wp2
  go_loopw [4, 16] (fun r c wr => ∃ i n : Nat, i ≤ 27 ∧ c = .int .i64 i ∧ r = q32 (rk k i) ∧ wr = ((((w.alloc (.cells #[q32 k.k0, q32 k.k1, q32 k.k2, q32 k.k3] 32)).alloc (.cells (outA k 0) 316)).alloc (.cells (outA k i) 316)).alloc (.cells (lA k i) 344)).drewN n) (fun _ c _ => 27 - (intOf c).toNat)
  case atStart => exact ⟨0, 0, by omega, rfl, rfl, rfl⟩
  case round =>
    obtain ⟨i, n, hi, rfl, rfl, rfl⟩ := hrel
    by_cases hlt : i < 27
    · have h1 := outA_at k i i hlt
      have h2 := lA_at k i
      have h3 := outA_set k i
      have H3 := Lib.hid h3
      have H4 := Lib.hid (lA_set k i)
      clear h3
      go_wp2_with (go_at_call 226; (with_reducible refine (rot_m8 _ _).mono ?_); rintro e w' ⟨rfl, rfl⟩)
      go_quiet ((go_at_call 226; exact Calls.quiet_of_same ((rot_3 _ _).mono fun _ _ ⟨a, b⟩ => ⟨a, b.symm⟩)))
      go_wp2
      refine ⟨⟨i + 1, n + nq, by omega, by go_num, rfl, ?_⟩, by simp [intOf]; omega⟩
      rw [← H3.out, ← H4.out, set_drewN, set_old _ _ _ _ _ (by simp), set_new _ _ _ _ _ _ (by simp), set_drewN, set_new _ _ _ _ _ _ (by simp), World.drewN_drewN]
      rfl
    · obtain rfl : i = 27 := by omega
      go_wp2_with (first
        | (with_reducible refine wpList_load_row rfl 316 (.tmp 3) rfl (w.heap.size + 1 + 1) rfl 316 (outA k 27) (0, 0) _ ?_ Tryz.underlying316 rfl (by rw [outA_size]; kernel_rfl) ?_)
        | (with_reducible refine wpList_store_row rfl 316 (.tmp 2) (.tmp 43) rfl (w.heap.size + 1) (outA k 27) rfl rfl 316 (outA k 0) ?_ (by rw [outA_size]; kernel_rfl) (by rw [outA_size, outA_size]) (outA_one k 27) ?_))
      · exact (((Blk.newAt _ _ _ _ (by simp)).alloc _).drewN n)
      · exact ((((Blk.newAt _ _ _ _ (by simp)).alloc _).alloc _).drewN n)
      · refine bodyPost_ret (v := .agg (outA k 27)) (results_cell_row Tryz.results225 _ _ (w.heap.size + 1) 316 (outA k 27) (0, 0) _ rfl ?_ Tryz.underlying316 rfl (by rw [outA_size]; kernel_rfl)) rfl ⟨rfl, ?_⟩
        · exact Blk.row (old := outA k 0) ((((Blk.newAt _ _ _ _ (by simp)).alloc _).alloc _).drewN n) _
        · exact below_row (below_drewN ((((((Below.refl _ _).alloc (Nat.le_refl _) _).alloc (by simp <;> omega) _).alloc (by simp <;> omega) _).alloc (by simp <;> omega) _)) n) (by omega) _
theorem rounds_any (a b c d : BitVec 32) (w : World) : Calls Tryz.prog 225 #[.agg #[q32 a, q32 b, q32 c, q32 d]] w fun e w' => e = .returned (.agg (outA ⟨a, b, c, d⟩ 27)) ∧ Below w.heap.size w w' := rounds_k ⟨a, b, c, d⟩ w

theorem notAgg_u32 (w : World) : (isAgg 30).run Tryz.prog w = .ok false w := by kernel_rfl
/-- Two rows of keys of the rounds, held against each other. -/
def sameKeys (k k' : K4) : Bool := (List.range 27).all fun i => rk k i == rk k' i
theorem sameKeys_self (k : K4) : sameKeys k k = true := by unfold sameKeys; rw [List.all_eq_true]; intro i _; simp
theorem sameKeys_first (k : K4) (n : BitVec 32) : sameKeys k ⟨k.k0, k.k1, k.k2, n⟩ = (n == k.k3) := by
  rw [Bool.eq_iff_iff]
  unfold sameKeys
  simp only [List.all_eq_true, List.mem_range, beq_iff_eq]
  exact first_eq k n
theorem run_eql_keys (k k' : K4) (w : World) : (binOp .eql 316 (.agg (outA k 27)) (.agg (outA k' 27))).run Tryz.prog w = .ok (.bool (sameKeys k k')) w := by
  obtain ⟨i, hi⟩ := info_of_underlying Tryz.underlying30
  exact run_eql_row _ _ Tryz.underlying316 hi (by kernel_rfl) notAgg_u32 _ _ (fun i => rk k i == rk k' i) w
    (fun i hi => ⟨outA_full k i hi, outA_full k' i hi, q32_equalIn 30 _ _ w 9998 .u32 Tryz.underlying30⟩)
theorem run_key (k : K4) (i : Nat) (hi : i < 27) (w : World) : (Instr.index 316 (.agg (outA k 27)) (.int .i64 i)).run Tryz.prog w = .ok (q32 (rk k i)) w :=
  run_index_row 316 30 27 _ _ _ _ Tryz.underlying316 notAgg_u32 (by kernel_rfl) (by omega) (by omega) (outA_full k i hi) w
theorem encN_one (k : K4) (i : Nat) (p : BitVec 32 × BitVec 32) : encN k (i + 1) p = enc1 (rk k i) (encN k i p) := rfl
set_option maxHeartbeats 1000000 in
theorem enc_k (k : K4) (x : BitVec 64) (w : World) : Calls Tryz.prog 188 #[.agg #[q32 k.k0, q32 k.k1, q32 k.k2, q32 k.k3], q64 x] w fun e w' => e = .returned (q64 (Enc k x)) ∧ Below w.heap.size w w' := by
  go_enter Tryz.func188, Tryz.ntmps188
  go_wp2_with (go_at_call 225; (with_reducible refine (rounds_k _ _).mono ?_); rintro e w' ⟨rfl, hb⟩)
  go_loop [5, 6, 16] (fun u v c => ∃ i : Nat, i ≤ 27 ∧ c = .int .i64 i ∧ u = q32 (encN k i (split2 x)).1 ∧ v = q32 (encN k i (split2 x)).2) (fun _ _ c => 27 - (intOf c).toNat)
  case atStart => exact ⟨0, by omega, rfl, rfl, rfl⟩
  case round =>
    obtain ⟨i, hi, rfl, rfl, rfl⟩ := hrel
    have H1 := Lib.hid (encN_one k i (split2 x))
    generalize hp : encN k i (split2 x) = p at *
    by_cases hlt : i < 27
    · have h1 := run_key k i hlt
      clear hp
      go_wp2_with (first | (go_at_call 226; (with_reducible refine (rot_m8 _ _).mono ?_); rintro e w' ⟨rfl, rfl⟩) | (go_at_call 226; (with_reducible refine (rot_3 _ _).mono ?_); rintro e w' ⟨rfl, rfl⟩))
      go_round
      case rel => exact ⟨i + 1, by omega, by go_num, by rw [H1.out]; rfl, by rw [H1.out]; rfl⟩
      case measure => simp [intOf]; omega
    · obtain rfl : i = 27 := by omega
      have Hp := Lib.hid hp
      clear hp H1
      go_wp2
      go_ret
      refine ⟨?_, below_of_alloc hb⟩
      unfold Enc
      rw [Hp.out]
      rfl
theorem enc_any (a b c d : BitVec 32) (x : BitVec 64) (w : World) : Calls Tryz.prog 188 #[.agg #[q32 a, q32 b, q32 c, q32 d], q64 x] w fun e w' => e = .returned (q64 (Enc ⟨a, b, c, d⟩ x)) ∧ Below w.heap.size w w' := enc_k ⟨a, b, c, d⟩ x w

end Go.Proofs.YtpjdcpicfkdioaaGreatDoor
