/- The document's functions: the text, the bytes. -/
import Derived.Test.YtnngknmmokajgaaPduRight
import Derived.Test.YtnngknmmokajgaaPduRef
set_option linter.unusedSimpArgs false
set_option linter.unusedVariables false
namespace Go.Proofs.Ytnngknmmokajgaa
open Go.RowKit Go.Shelf

theorem OwnB.newBytes {w : World} {base : Nat} {A : Option Addr} {c : Nat} {bs : List UInt8} (h : OwnB w base A c bs) : IsBytes bs (.slice A bs.length c) w := ⟨A, c, rfl, h.bytes⟩
theorem OwnB.empty (w : World) (base : Nat) : OwnB w base none 0 [] := OwnB.nil w base
attribute [local go_sem high] conv_i64_32 conv_i64_64
theorem put_1 (base : Nat) (A : Option Addr) (n c : Nat) (xs : List UInt8) (a : BitVec 64) (w : World) (hn : n = xs.length) (ho : OwnB w base A c xs) (hbase : base ≤ w.heap.size) (hlen : xs.length ≤ 60000) :
    Calls Try.prog 64 #[.slice A n c, q64 a, .int .i64 1] w fun e w' => ∃ A' c', e = .returned (.slice A' (n + 1) c') ∧ OwnB w' base A' c' (xs ++ be 1 a.toNat) ∧ Below base w w' := put_k base A n c xs a 1 w hn ho hbase (by omega)
theorem put_2 (base : Nat) (A : Option Addr) (n c : Nat) (xs : List UInt8) (a : BitVec 64) (w : World) (hn : n = xs.length) (ho : OwnB w base A c xs) (hbase : base ≤ w.heap.size) (hlen : xs.length ≤ 60000) :
    Calls Try.prog 64 #[.slice A n c, q64 a, .int .i64 2] w fun e w' => ∃ A' c', e = .returned (.slice A' (n + 2) c') ∧ OwnB w' base A' c' (xs ++ be 2 a.toNat) ∧ Below base w w' := put_k base A n c xs a 2 w hn ho hbase (by omega)
theorem put_3 (base : Nat) (A : Option Addr) (n c : Nat) (xs : List UInt8) (a : BitVec 64) (w : World) (hn : n = xs.length) (ho : OwnB w base A c xs) (hbase : base ≤ w.heap.size) (hlen : xs.length ≤ 60000) :
    Calls Try.prog 64 #[.slice A n c, q64 a, .int .i64 3] w fun e w' => ∃ A' c', e = .returned (.slice A' (n + 3) c') ∧ OwnB w' base A' c' (xs ++ be 3 a.toNat) ∧ Below base w w' := put_k base A n c xs a 3 w hn ho hbase (by omega)
theorem put_4 (base : Nat) (A : Option Addr) (n c : Nat) (xs : List UInt8) (a : BitVec 64) (w : World) (hn : n = xs.length) (ho : OwnB w base A c xs) (hbase : base ≤ w.heap.size) (hlen : xs.length ≤ 60000) :
    Calls Try.prog 64 #[.slice A n c, q64 a, .int .i64 4] w fun e w' => ∃ A' c', e = .returned (.slice A' (n + 4) c') ∧ OwnB w' base A' c' (xs ++ be 4 a.toNat) ∧ Below base w w' := put_k base A n c xs a 4 w hn ho hbase (by omega)
theorem put_8 (base : Nat) (A : Option Addr) (n c : Nat) (xs : List UInt8) (a : BitVec 64) (w : World) (hn : n = xs.length) (ho : OwnB w base A c xs) (hbase : base ≤ w.heap.size) (hlen : xs.length ≤ 60000) :
    Calls Try.prog 64 #[.slice A n c, q64 a, .int .i64 8] w fun e w' => ∃ A' c', e = .returned (.slice A' (n + 8) c') ∧ OwnB w' base A' c' (xs ++ be 8 a.toNat) ∧ Below base w w' := put_k base A n c xs a 8 w hn ho hbase (by omega)
theorem bcellB {B : Nat} {w w' : World} (h : Below B w w') : ∀ b o, b < B → w'.cell? ⟨b, o, none⟩ = w.cell? ⟨b, o, none⟩ := fun b o hb => h.cell (p := ⟨b, o, none⟩) hb
theorem ofInt64 (z : Int) (h0 : 0 ≤ z) (h1 : z < 18446744073709551616) : (BitVec.ofInt 64 z).toNat = z.toNat := by
  rw [BitVec.toNat_ofInt]
  congr 1
  simp
  omega
theorem set64 (a : BitVec 32) : (a.setWidth 64).toNat = a.toNat := by
  have := a.isLt
  simp
  omega
set_option maxHeartbeats 4000000 in
theorem rtext_1 (kind dir train : Int) (a b : BitVec 32) (body : List UInt8) (mac : BitVec 64) (A : Option Addr) (n c : Nat) (w : World) (hn : body.length = n) (hB : Bytes w A c body) (hlen : body.length ≤ 2000) (hm : may ⟨kind, dir, train, a, b, body, mac⟩ = true) (hk : kind = 1) :
    Calls Try.prog 54 #[.agg #[.int .i64 kind, .int .i64 dir, .int .i64 train, q32 a, q32 b, .slice A n c, q64 mac]] w fun e w' => ∃ A' n' c', e = .returned (.slice A' n' c') ∧ n' = (textB ⟨kind, dir, train, a, b, body, mac⟩).length ∧ OwnB w' (w.heap.size + 1) A' c' (textB ⟨kind, dir, train, a, b, body, mac⟩) ∧ Below w.heap.size w w' := by
  have hmay : ∀ W, Calls Try.prog 52 #[.agg #[.int .i64 kind, .int .i64 dir, .int .i64 train, q32 a, q32 b, .slice A n c, q64 mac]] W fun e w' => e = .returned (.bool (may ⟨kind, dir, train, a, b, body, mac⟩)) ∧ Below W.heap.size W w' :=
    fun W => rmay_k ⟨kind, dir, train, a, b, body, mac⟩ A n c W hn.symm (by show body.length ≤ _; omega)
  rw [hm] at hmay
  obtain ⟨g1, g2, g3, g4⟩ : 0 ≤ train ∧ train < 16777216 ∧ 0 ≤ dir ∧ dir ≤ 1 := by
    have hM := may_iff.1 hm
    unfold MayP at hM
    exact ⟨hM.1, hM.2.1, hM.2.2.1, hM.2.2.2.1⟩
  have htb : textB ⟨kind, dir, train, a, b, body, mac⟩ = ((([] ++ be 1 (BitVec.ofInt 64 (2 * kind + dir)).toNat) ++ be 3 (BitVec.ofInt 64 train).toNat) ++ be 4 (a.setWidth 64).toNat) ++ body := by
    rw [ofInt64 (2 * kind + dir) (by omega) (by omega), ofInt64 train (by omega) (by omega)]
    simp only [set64]
    unfold textB
    simp only
    rw [if_pos (by omega), if_neg (by omega), if_neg (by omega)]; simp
  rw [htb]
  have hkb : 0 ≤ kind ∧ kind ≤ 6 := by
    have hM := may_iff.1 hm
    unfold MayP at hM
    simp only at hM
    omega
  obtain ⟨hk0, hk6⟩ := hkb
  clear htb hm
  have t3 : kind ≤ 3 := (by omega); have t2 : ¬ (2 ≤ kind) := (by omega); have t5 : (kind == 5) = false := (by simp; omega)
  replace hk := Lib.hid hk
  obtain ⟨base, hbase⟩ : ∃ base, base = w.heap.size + 1 := ⟨_, rfl⟩
  rw [← hbase]
  have hsz : w.heap.size < base := by omega
  replace hbase := Lib.hid hbase
  go_enter Try.func54, Try.ntmps54
  go_wp2_with (first
    | (go_at_call 52; (with_reducible refine (hmay _).mono ?_); rintro e w1 ⟨rfl, hb⟩; obtain ⟨hc1, _⟩ := bcell hb; have hz : w.heap.size < w1.heap.size := (by have := hb.size; simp at this; omega); have hbw1 := below_of_alloc hb; have hb01 : Below base w1 w1 := Below.refl _ _; have hzb : base ≤ w1.heap.size := (by have := hbase.out; omega))
    | (go_at_call 64; (with_reducible refine (put_1 base none 0 0 [] (BitVec.ofInt 64 (2 * kind + dir)) w1 (by simp [be_length]) (OwnB.nil _ _) (by have := hb01.size; omega) (by simp [be_length])).mono ?_); rintro e w2 ⟨A2, c2, rfl, ho2, hbn⟩; have hb02 := hb01.trans hbn; clear hbn; have hcn := bcellB hb02)
    | (go_at_call 64; (with_reducible refine (put_3 base A2 1 c2 ([] ++ be 1 (BitVec.ofInt 64 (2 * kind + dir)).toNat) (BitVec.ofInt 64 train) w2 (by simp [be_length]) ho2 (by have := hb02.size; omega) (by simp [be_length])).mono ?_); rintro e w3 ⟨A3, c3, rfl, ho3, hbn⟩; have hb03 := hb02.trans hbn; clear hbn; have hcn := bcellB hb03)
    | (go_at_call 64; (with_reducible refine (put_4 base A3 4 c3 (([] ++ be 1 (BitVec.ofInt 64 (2 * kind + dir)).toNat) ++ be 3 (BitVec.ofInt 64 train).toNat) (a.setWidth 64) w3 (by simp [be_length]) ho3 (by have := hb03.size; omega) (by simp [be_length])).mono ?_); rintro e w4 ⟨A4, c4, rfl, ho4, hbn⟩; have hb04 := hb03.trans hbn; clear hbn; have hcn := bcellB hb04)
    | (go_at_call 64; (with_reducible refine (put_4 base A4 8 c4 ((([] ++ be 1 (BitVec.ofInt 64 (2 * kind + dir)).toNat) ++ be 3 (BitVec.ofInt 64 train).toNat) ++ be 4 (a.setWidth 64).toNat) (b.setWidth 64) w4 (by simp [be_length]) ho4 (by have := hb04.size; omega) (by simp [be_length])).mono ?_); rintro e w5 ⟨A5, c5, rfl, ho5, hbn⟩; have hb05 := hb04.trans hbn; clear hbn; have hcn := bcellB hb05)
    | (go_at_call 64; (with_reducible refine (put_4 base A3 4 c3 (([] ++ be 1 (BitVec.ofInt 64 (2 * kind + dir)).toNat) ++ be 3 (BitVec.ofInt 64 train).toNat) (b.setWidth 64) w3 (by simp [be_length]) ho3 (by have := hb03.size; omega) (by simp [be_length])).mono ?_); rintro e w5 ⟨A5, c5, rfl, ho5, hbn⟩; have hb05 := hb03.trans hbn; clear hbn; have hcn := bcellB hb05)
    | (go_at_call 64; (with_reducible refine (put_2 base A5 8 c5 ((([] ++ be 1 (BitVec.ofInt 64 (2 * kind + dir)).toNat) ++ be 3 (BitVec.ofInt 64 train).toNat) ++ be 4 (b.setWidth 64).toNat) (BitVec.ofNat 64 n) w5 (by simp [be_length]) ho5 (by have := hb05.size; omega) (by simp [be_length])).mono ?_); rintro e w6 ⟨A6, c6, rfl, ho6, hbn⟩; have hb06 := hb05.trans hbn; clear hbn; have hcn := bcellB hb06)
    | (at_builtin; go_loud (refine wpList_app_bytes rfl (.tmp 47) (.tmp 49) rfl base A4 c4 ((([] ++ be 1 (BitVec.ofInt 64 (2 * kind + dir)).toNat) ++ be 3 (BitVec.ofInt 64 train).toNat) ++ be 4 (a.setWidth 64).toNat) 8 rfl (by simp [be_length]) ho4 A c body n rfl hn.symm (hB.below (hbw1.trans (hb04.mono (Nat.le_of_lt hsz)))) (by simp [be_length]; omega) (by have := hb04.size; omega) ?_); intro A7 c7 w7 ho7 hgr7 hb7))
  go_ret
  exact ⟨A7, _, c7, rfl, by simp [be_length, hn] <;> omega, by simpa using ho7, hbw1.trans ((Below.trans hb04 hb7).mono (Nat.le_of_lt hsz))⟩
set_option maxHeartbeats 4000000 in
theorem rtext_2 (kind dir train : Int) (a b : BitVec 32) (body : List UInt8) (mac : BitVec 64) (A : Option Addr) (n c : Nat) (w : World) (hn : body.length = n) (hB : Bytes w A c body) (hlen : body.length ≤ 2000) (hm : may ⟨kind, dir, train, a, b, body, mac⟩ = true) (hk : 2 ≤ kind ∧ kind ≤ 3) :
    Calls Try.prog 54 #[.agg #[.int .i64 kind, .int .i64 dir, .int .i64 train, q32 a, q32 b, .slice A n c, q64 mac]] w fun e w' => ∃ A' n' c', e = .returned (.slice A' n' c') ∧ n' = (textB ⟨kind, dir, train, a, b, body, mac⟩).length ∧ OwnB w' (w.heap.size + 1) A' c' (textB ⟨kind, dir, train, a, b, body, mac⟩) ∧ Below w.heap.size w w' := by
  have hmay : ∀ W, Calls Try.prog 52 #[.agg #[.int .i64 kind, .int .i64 dir, .int .i64 train, q32 a, q32 b, .slice A n c, q64 mac]] W fun e w' => e = .returned (.bool (may ⟨kind, dir, train, a, b, body, mac⟩)) ∧ Below W.heap.size W w' :=
    fun W => rmay_k ⟨kind, dir, train, a, b, body, mac⟩ A n c W hn.symm (by show body.length ≤ _; omega)
  rw [hm] at hmay
  obtain ⟨g1, g2, g3, g4⟩ : 0 ≤ train ∧ train < 16777216 ∧ 0 ≤ dir ∧ dir ≤ 1 := by
    have hM := may_iff.1 hm
    unfold MayP at hM
    exact ⟨hM.1, hM.2.1, hM.2.2.1, hM.2.2.2.1⟩
  have htb : textB ⟨kind, dir, train, a, b, body, mac⟩ = (((([] ++ be 1 (BitVec.ofInt 64 (2 * kind + dir)).toNat) ++ be 3 (BitVec.ofInt 64 train).toNat) ++ be 4 (a.setWidth 64).toNat) ++ be 4 (b.setWidth 64).toNat) ++ body := by
    rw [ofInt64 (2 * kind + dir) (by omega) (by omega), ofInt64 train (by omega) (by omega)]
    simp only [set64]
    unfold textB
    simp only
    rw [if_pos (by omega), if_pos (by omega), if_neg (by omega)]; simp
  rw [htb]
  have hkb : 0 ≤ kind ∧ kind ≤ 6 := by
    have hM := may_iff.1 hm
    unfold MayP at hM
    simp only at hM
    omega
  obtain ⟨hk0, hk6⟩ := hkb
  clear htb hm
  have t3 : kind ≤ 3 := (by omega); have t2 : 2 ≤ kind := (by omega); have t5 : (kind == 5) = false := (by simp; omega)
  replace hk := Lib.hid hk
  obtain ⟨base, hbase⟩ : ∃ base, base = w.heap.size + 1 := ⟨_, rfl⟩
  rw [← hbase]
  have hsz : w.heap.size < base := by omega
  replace hbase := Lib.hid hbase
  go_enter Try.func54, Try.ntmps54
  go_wp2_with (first
    | (go_at_call 52; (with_reducible refine (hmay _).mono ?_); rintro e w1 ⟨rfl, hb⟩; obtain ⟨hc1, _⟩ := bcell hb; have hz : w.heap.size < w1.heap.size := (by have := hb.size; simp at this; omega); have hbw1 := below_of_alloc hb; have hb01 : Below base w1 w1 := Below.refl _ _; have hzb : base ≤ w1.heap.size := (by have := hbase.out; omega))
    | (go_at_call 64; (with_reducible refine (put_1 base none 0 0 [] (BitVec.ofInt 64 (2 * kind + dir)) w1 (by simp [be_length]) (OwnB.nil _ _) (by have := hb01.size; omega) (by simp [be_length])).mono ?_); rintro e w2 ⟨A2, c2, rfl, ho2, hbn⟩; have hb02 := hb01.trans hbn; clear hbn; have hcn := bcellB hb02)
    | (go_at_call 64; (with_reducible refine (put_3 base A2 1 c2 ([] ++ be 1 (BitVec.ofInt 64 (2 * kind + dir)).toNat) (BitVec.ofInt 64 train) w2 (by simp [be_length]) ho2 (by have := hb02.size; omega) (by simp [be_length])).mono ?_); rintro e w3 ⟨A3, c3, rfl, ho3, hbn⟩; have hb03 := hb02.trans hbn; clear hbn; have hcn := bcellB hb03)
    | (go_at_call 64; (with_reducible refine (put_4 base A3 4 c3 (([] ++ be 1 (BitVec.ofInt 64 (2 * kind + dir)).toNat) ++ be 3 (BitVec.ofInt 64 train).toNat) (a.setWidth 64) w3 (by simp [be_length]) ho3 (by have := hb03.size; omega) (by simp [be_length])).mono ?_); rintro e w4 ⟨A4, c4, rfl, ho4, hbn⟩; have hb04 := hb03.trans hbn; clear hbn; have hcn := bcellB hb04)
    | (go_at_call 64; (with_reducible refine (put_4 base A4 8 c4 ((([] ++ be 1 (BitVec.ofInt 64 (2 * kind + dir)).toNat) ++ be 3 (BitVec.ofInt 64 train).toNat) ++ be 4 (a.setWidth 64).toNat) (b.setWidth 64) w4 (by simp [be_length]) ho4 (by have := hb04.size; omega) (by simp [be_length])).mono ?_); rintro e w5 ⟨A5, c5, rfl, ho5, hbn⟩; have hb05 := hb04.trans hbn; clear hbn; have hcn := bcellB hb05)
    | (go_at_call 64; (with_reducible refine (put_4 base A3 4 c3 (([] ++ be 1 (BitVec.ofInt 64 (2 * kind + dir)).toNat) ++ be 3 (BitVec.ofInt 64 train).toNat) (b.setWidth 64) w3 (by simp [be_length]) ho3 (by have := hb03.size; omega) (by simp [be_length])).mono ?_); rintro e w5 ⟨A5, c5, rfl, ho5, hbn⟩; have hb05 := hb03.trans hbn; clear hbn; have hcn := bcellB hb05)
    | (go_at_call 64; (with_reducible refine (put_2 base A5 8 c5 ((([] ++ be 1 (BitVec.ofInt 64 (2 * kind + dir)).toNat) ++ be 3 (BitVec.ofInt 64 train).toNat) ++ be 4 (b.setWidth 64).toNat) (BitVec.ofNat 64 n) w5 (by simp [be_length]) ho5 (by have := hb05.size; omega) (by simp [be_length])).mono ?_); rintro e w6 ⟨A6, c6, rfl, ho6, hbn⟩; have hb06 := hb05.trans hbn; clear hbn; have hcn := bcellB hb06)
    | (at_builtin; go_loud (refine wpList_app_bytes rfl (.tmp 47) (.tmp 49) rfl base A5 c5 (((([] ++ be 1 (BitVec.ofInt 64 (2 * kind + dir)).toNat) ++ be 3 (BitVec.ofInt 64 train).toNat) ++ be 4 (a.setWidth 64).toNat) ++ be 4 (b.setWidth 64).toNat) 12 rfl (by simp [be_length]) ho5 A c body n rfl hn.symm (hB.below (hbw1.trans (hb05.mono (Nat.le_of_lt hsz)))) (by simp [be_length]; omega) (by have := hb05.size; omega) ?_); intro A7 c7 w7 ho7 hgr7 hb7))
  go_ret
  exact ⟨A7, _, c7, rfl, by simp [be_length, hn] <;> omega, by simpa using ho7, hbw1.trans ((Below.trans hb05 hb7).mono (Nat.le_of_lt hsz))⟩
set_option maxHeartbeats 4000000 in
theorem rtext_5 (kind dir train : Int) (a b : BitVec 32) (body : List UInt8) (mac : BitVec 64) (A : Option Addr) (n c : Nat) (w : World) (hn : body.length = n) (hB : Bytes w A c body) (hlen : body.length ≤ 2000) (hm : may ⟨kind, dir, train, a, b, body, mac⟩ = true) (hk : kind = 5) :
    Calls Try.prog 54 #[.agg #[.int .i64 kind, .int .i64 dir, .int .i64 train, q32 a, q32 b, .slice A n c, q64 mac]] w fun e w' => ∃ A' n' c', e = .returned (.slice A' n' c') ∧ n' = (textB ⟨kind, dir, train, a, b, body, mac⟩).length ∧ OwnB w' (w.heap.size + 1) A' c' (textB ⟨kind, dir, train, a, b, body, mac⟩) ∧ Below w.heap.size w w' := by
  have hmay : ∀ W, Calls Try.prog 52 #[.agg #[.int .i64 kind, .int .i64 dir, .int .i64 train, q32 a, q32 b, .slice A n c, q64 mac]] W fun e w' => e = .returned (.bool (may ⟨kind, dir, train, a, b, body, mac⟩)) ∧ Below W.heap.size W w' :=
    fun W => rmay_k ⟨kind, dir, train, a, b, body, mac⟩ A n c W hn.symm (by show body.length ≤ _; omega)
  rw [hm] at hmay
  obtain ⟨g1, g2, g3, g4⟩ : 0 ≤ train ∧ train < 16777216 ∧ 0 ≤ dir ∧ dir ≤ 1 := by
    have hM := may_iff.1 hm
    unfold MayP at hM
    exact ⟨hM.1, hM.2.1, hM.2.2.1, hM.2.2.2.1⟩
  have htb : textB ⟨kind, dir, train, a, b, body, mac⟩ = (((([] ++ be 1 (BitVec.ofInt 64 (2 * kind + dir)).toNat) ++ be 3 (BitVec.ofInt 64 train).toNat) ++ be 4 (b.setWidth 64).toNat) ++ be 2 (BitVec.ofNat 64 n).toNat) ++ body := by
    rw [ofInt64 (2 * kind + dir) (by omega) (by omega), ofInt64 train (by omega) (by omega)]
    simp only [set64]
    unfold textB
    simp only
    rw [if_neg (by omega), if_pos (by omega), if_pos (by omega), hn, show (BitVec.ofNat 64 n).toNat = n by simp; omega]; simp
  rw [htb]
  have hkb : 0 ≤ kind ∧ kind ≤ 6 := by
    have hM := may_iff.1 hm
    unfold MayP at hM
    simp only at hM
    omega
  obtain ⟨hk0, hk6⟩ := hkb
  clear htb hm
  have t3 : ¬ (kind ≤ 3) := (by omega); have t2 : 2 ≤ kind := (by omega); have t5 : (kind == 5) = true := (by simp [hk])
  replace hk := Lib.hid hk
  obtain ⟨base, hbase⟩ : ∃ base, base = w.heap.size + 1 := ⟨_, rfl⟩
  rw [← hbase]
  have hsz : w.heap.size < base := by omega
  replace hbase := Lib.hid hbase
  go_enter Try.func54, Try.ntmps54
  go_wp2_with (first
    | (go_at_call 52; (with_reducible refine (hmay _).mono ?_); rintro e w1 ⟨rfl, hb⟩; obtain ⟨hc1, _⟩ := bcell hb; have hz : w.heap.size < w1.heap.size := (by have := hb.size; simp at this; omega); have hbw1 := below_of_alloc hb; have hb01 : Below base w1 w1 := Below.refl _ _; have hzb : base ≤ w1.heap.size := (by have := hbase.out; omega))
    | (go_at_call 64; (with_reducible refine (put_1 base none 0 0 [] (BitVec.ofInt 64 (2 * kind + dir)) w1 (by simp [be_length]) (OwnB.nil _ _) (by have := hb01.size; omega) (by simp [be_length])).mono ?_); rintro e w2 ⟨A2, c2, rfl, ho2, hbn⟩; have hb02 := hb01.trans hbn; clear hbn; have hcn := bcellB hb02)
    | (go_at_call 64; (with_reducible refine (put_3 base A2 1 c2 ([] ++ be 1 (BitVec.ofInt 64 (2 * kind + dir)).toNat) (BitVec.ofInt 64 train) w2 (by simp [be_length]) ho2 (by have := hb02.size; omega) (by simp [be_length])).mono ?_); rintro e w3 ⟨A3, c3, rfl, ho3, hbn⟩; have hb03 := hb02.trans hbn; clear hbn; have hcn := bcellB hb03)
    | (go_at_call 64; (with_reducible refine (put_4 base A3 4 c3 (([] ++ be 1 (BitVec.ofInt 64 (2 * kind + dir)).toNat) ++ be 3 (BitVec.ofInt 64 train).toNat) (a.setWidth 64) w3 (by simp [be_length]) ho3 (by have := hb03.size; omega) (by simp [be_length])).mono ?_); rintro e w4 ⟨A4, c4, rfl, ho4, hbn⟩; have hb04 := hb03.trans hbn; clear hbn; have hcn := bcellB hb04)
    | (go_at_call 64; (with_reducible refine (put_4 base A4 8 c4 ((([] ++ be 1 (BitVec.ofInt 64 (2 * kind + dir)).toNat) ++ be 3 (BitVec.ofInt 64 train).toNat) ++ be 4 (a.setWidth 64).toNat) (b.setWidth 64) w4 (by simp [be_length]) ho4 (by have := hb04.size; omega) (by simp [be_length])).mono ?_); rintro e w5 ⟨A5, c5, rfl, ho5, hbn⟩; have hb05 := hb04.trans hbn; clear hbn; have hcn := bcellB hb05)
    | (go_at_call 64; (with_reducible refine (put_4 base A3 4 c3 (([] ++ be 1 (BitVec.ofInt 64 (2 * kind + dir)).toNat) ++ be 3 (BitVec.ofInt 64 train).toNat) (b.setWidth 64) w3 (by simp [be_length]) ho3 (by have := hb03.size; omega) (by simp [be_length])).mono ?_); rintro e w5 ⟨A5, c5, rfl, ho5, hbn⟩; have hb05 := hb03.trans hbn; clear hbn; have hcn := bcellB hb05)
    | (go_at_call 64; (with_reducible refine (put_2 base A5 8 c5 ((([] ++ be 1 (BitVec.ofInt 64 (2 * kind + dir)).toNat) ++ be 3 (BitVec.ofInt 64 train).toNat) ++ be 4 (b.setWidth 64).toNat) (BitVec.ofNat 64 n) w5 (by simp [be_length]) ho5 (by have := hb05.size; omega) (by simp [be_length])).mono ?_); rintro e w6 ⟨A6, c6, rfl, ho6, hbn⟩; have hb06 := hb05.trans hbn; clear hbn; have hcn := bcellB hb06)
    | (at_builtin; go_loud (refine wpList_app_bytes rfl (.tmp 47) (.tmp 49) rfl base A6 c6 (((([] ++ be 1 (BitVec.ofInt 64 (2 * kind + dir)).toNat) ++ be 3 (BitVec.ofInt 64 train).toNat) ++ be 4 (b.setWidth 64).toNat) ++ be 2 (BitVec.ofNat 64 n).toNat) 10 rfl (by simp [be_length]) ho6 A c body n rfl hn.symm (hB.below (hbw1.trans (hb06.mono (Nat.le_of_lt hsz)))) (by simp [be_length]; omega) (by have := hb06.size; omega) ?_); intro A7 c7 w7 ho7 hgr7 hb7))
  go_ret
  exact ⟨A7, _, c7, rfl, by simp [be_length, hn] <;> omega, by simpa using ho7, hbw1.trans ((Below.trans hb06 hb7).mono (Nat.le_of_lt hsz))⟩
set_option maxHeartbeats 4000000 in
theorem rtext_6 (kind dir train : Int) (a b : BitVec 32) (body : List UInt8) (mac : BitVec 64) (A : Option Addr) (n c : Nat) (w : World) (hn : body.length = n) (hB : Bytes w A c body) (hlen : body.length ≤ 2000) (hm : may ⟨kind, dir, train, a, b, body, mac⟩ = true) (hk : kind = 6) :
    Calls Try.prog 54 #[.agg #[.int .i64 kind, .int .i64 dir, .int .i64 train, q32 a, q32 b, .slice A n c, q64 mac]] w fun e w' => ∃ A' n' c', e = .returned (.slice A' n' c') ∧ n' = (textB ⟨kind, dir, train, a, b, body, mac⟩).length ∧ OwnB w' (w.heap.size + 1) A' c' (textB ⟨kind, dir, train, a, b, body, mac⟩) ∧ Below w.heap.size w w' := by
  have hmay : ∀ W, Calls Try.prog 52 #[.agg #[.int .i64 kind, .int .i64 dir, .int .i64 train, q32 a, q32 b, .slice A n c, q64 mac]] W fun e w' => e = .returned (.bool (may ⟨kind, dir, train, a, b, body, mac⟩)) ∧ Below W.heap.size W w' :=
    fun W => rmay_k ⟨kind, dir, train, a, b, body, mac⟩ A n c W hn.symm (by show body.length ≤ _; omega)
  rw [hm] at hmay
  obtain ⟨g1, g2, g3, g4⟩ : 0 ≤ train ∧ train < 16777216 ∧ 0 ≤ dir ∧ dir ≤ 1 := by
    have hM := may_iff.1 hm
    unfold MayP at hM
    exact ⟨hM.1, hM.2.1, hM.2.2.1, hM.2.2.2.1⟩
  have htb : textB ⟨kind, dir, train, a, b, body, mac⟩ = ((([] ++ be 1 (BitVec.ofInt 64 (2 * kind + dir)).toNat) ++ be 3 (BitVec.ofInt 64 train).toNat) ++ be 4 (b.setWidth 64).toNat) ++ body := by
    rw [ofInt64 (2 * kind + dir) (by omega) (by omega), ofInt64 train (by omega) (by omega)]
    simp only [set64]
    unfold textB
    simp only
    rw [if_neg (by omega), if_pos (by omega), if_neg (by omega)]; simp
  rw [htb]
  have hkb : 0 ≤ kind ∧ kind ≤ 6 := by
    have hM := may_iff.1 hm
    unfold MayP at hM
    simp only at hM
    omega
  obtain ⟨hk0, hk6⟩ := hkb
  clear htb hm
  have t3 : ¬ (kind ≤ 3) := (by omega); have t2 : 2 ≤ kind := (by omega); have t5 : (kind == 5) = false := (by simp; omega)
  replace hk := Lib.hid hk
  obtain ⟨base, hbase⟩ : ∃ base, base = w.heap.size + 1 := ⟨_, rfl⟩
  rw [← hbase]
  have hsz : w.heap.size < base := by omega
  replace hbase := Lib.hid hbase
  go_enter Try.func54, Try.ntmps54
  go_wp2_with (first
    | (go_at_call 52; (with_reducible refine (hmay _).mono ?_); rintro e w1 ⟨rfl, hb⟩; obtain ⟨hc1, _⟩ := bcell hb; have hz : w.heap.size < w1.heap.size := (by have := hb.size; simp at this; omega); have hbw1 := below_of_alloc hb; have hb01 : Below base w1 w1 := Below.refl _ _; have hzb : base ≤ w1.heap.size := (by have := hbase.out; omega))
    | (go_at_call 64; (with_reducible refine (put_1 base none 0 0 [] (BitVec.ofInt 64 (2 * kind + dir)) w1 (by simp [be_length]) (OwnB.nil _ _) (by have := hb01.size; omega) (by simp [be_length])).mono ?_); rintro e w2 ⟨A2, c2, rfl, ho2, hbn⟩; have hb02 := hb01.trans hbn; clear hbn; have hcn := bcellB hb02)
    | (go_at_call 64; (with_reducible refine (put_3 base A2 1 c2 ([] ++ be 1 (BitVec.ofInt 64 (2 * kind + dir)).toNat) (BitVec.ofInt 64 train) w2 (by simp [be_length]) ho2 (by have := hb02.size; omega) (by simp [be_length])).mono ?_); rintro e w3 ⟨A3, c3, rfl, ho3, hbn⟩; have hb03 := hb02.trans hbn; clear hbn; have hcn := bcellB hb03)
    | (go_at_call 64; (with_reducible refine (put_4 base A3 4 c3 (([] ++ be 1 (BitVec.ofInt 64 (2 * kind + dir)).toNat) ++ be 3 (BitVec.ofInt 64 train).toNat) (a.setWidth 64) w3 (by simp [be_length]) ho3 (by have := hb03.size; omega) (by simp [be_length])).mono ?_); rintro e w4 ⟨A4, c4, rfl, ho4, hbn⟩; have hb04 := hb03.trans hbn; clear hbn; have hcn := bcellB hb04)
    | (go_at_call 64; (with_reducible refine (put_4 base A4 8 c4 ((([] ++ be 1 (BitVec.ofInt 64 (2 * kind + dir)).toNat) ++ be 3 (BitVec.ofInt 64 train).toNat) ++ be 4 (a.setWidth 64).toNat) (b.setWidth 64) w4 (by simp [be_length]) ho4 (by have := hb04.size; omega) (by simp [be_length])).mono ?_); rintro e w5 ⟨A5, c5, rfl, ho5, hbn⟩; have hb05 := hb04.trans hbn; clear hbn; have hcn := bcellB hb05)
    | (go_at_call 64; (with_reducible refine (put_4 base A3 4 c3 (([] ++ be 1 (BitVec.ofInt 64 (2 * kind + dir)).toNat) ++ be 3 (BitVec.ofInt 64 train).toNat) (b.setWidth 64) w3 (by simp [be_length]) ho3 (by have := hb03.size; omega) (by simp [be_length])).mono ?_); rintro e w5 ⟨A5, c5, rfl, ho5, hbn⟩; have hb05 := hb03.trans hbn; clear hbn; have hcn := bcellB hb05)
    | (go_at_call 64; (with_reducible refine (put_2 base A5 8 c5 ((([] ++ be 1 (BitVec.ofInt 64 (2 * kind + dir)).toNat) ++ be 3 (BitVec.ofInt 64 train).toNat) ++ be 4 (b.setWidth 64).toNat) (BitVec.ofNat 64 n) w5 (by simp [be_length]) ho5 (by have := hb05.size; omega) (by simp [be_length])).mono ?_); rintro e w6 ⟨A6, c6, rfl, ho6, hbn⟩; have hb06 := hb05.trans hbn; clear hbn; have hcn := bcellB hb06)
    | (at_builtin; go_loud (refine wpList_app_bytes rfl (.tmp 47) (.tmp 49) rfl base A5 c5 ((([] ++ be 1 (BitVec.ofInt 64 (2 * kind + dir)).toNat) ++ be 3 (BitVec.ofInt 64 train).toNat) ++ be 4 (b.setWidth 64).toNat) 8 rfl (by simp [be_length]) ho5 A c body n rfl hn.symm (hB.below (hbw1.trans (hb05.mono (Nat.le_of_lt hsz)))) (by simp [be_length]; omega) (by have := hb05.size; omega) ?_); intro A7 c7 w7 ho7 hgr7 hb7))
  go_ret
  exact ⟨A7, _, c7, rfl, by simp [be_length, hn] <;> omega, by simpa using ho7, hbw1.trans ((Below.trans hb05 hb7).mono (Nat.le_of_lt hsz))⟩
theorem rtext_k (p : P7) (A : Option Addr) (n c : Nat) (w : World) (hn : p.body.length = n) (hB : Bytes w A c p.body) (hlen : p.body.length ≤ 2000) :
    Calls Try.prog 54 #[.agg #[.int .i64 p.kind, .int .i64 p.dir, .int .i64 p.train, q32 p.a, q32 p.b, .slice A n c, q64 p.mac]] w fun e w' => ∃ A' n' c', e = .returned (.slice A' n' c') ∧ n' = (text p).length ∧ OwnB w' (w.heap.size + 1) A' c' (text p) ∧ Below w.heap.size w w' := by
  obtain ⟨kind, dir, train, a, b, body, mac⟩ := p
  simp only at hn hB hlen ⊢
  cases hm : may ⟨kind, dir, train, a, b, body, mac⟩ with
  | false =>
    have ht : text ⟨kind, dir, train, a, b, body, mac⟩ = [] := by simp [text, hm]
    have hmay : ∀ W, Calls Try.prog 52 #[.agg #[.int .i64 kind, .int .i64 dir, .int .i64 train, q32 a, q32 b, .slice A n c, q64 mac]] W fun e w' => e = .returned (.bool (may ⟨kind, dir, train, a, b, body, mac⟩)) ∧ Below W.heap.size W w' :=
      fun W => rmay_k ⟨kind, dir, train, a, b, body, mac⟩ A n c W hn.symm (by show body.length ≤ _; omega)
    rw [hm] at hmay
    rw [ht]
    clear hm ht
    go_enter Try.func54, Try.ntmps54
    go_wp2_with (go_at_call 52; (with_reducible refine (hmay _).mono ?_); rintro e w1 ⟨rfl, hb⟩)
    go_ret
    exact ⟨none, 0, 0, rfl, rfl, OwnB.nil _ _, below_of_alloc hb⟩
  | true =>
    have ht : text ⟨kind, dir, train, a, b, body, mac⟩ = textB ⟨kind, dir, train, a, b, body, mac⟩ := by simp [text, hm]
    rw [ht]
    have hM := may_iff.1 hm
    unfold MayP at hM
    rcases hM.2.2.2.2 with ⟨h, _⟩ | ⟨h, _⟩ | ⟨h, _⟩ | ⟨h, _⟩ | ⟨h, _⟩
    · exact rtext_1 kind dir train a b body mac A n c w hn hB hlen hm h
    · simp only at h
      exact rtext_2 kind dir train a b body mac A n c w hn hB hlen hm (by omega)
    · simp only at h
      exact rtext_2 kind dir train a b body mac A n c w hn hB hlen hm (by omega)
    · exact rtext_5 kind dir train a b body mac A n c w hn hB hlen hm h
    · exact rtext_6 kind dir train a b body mac A n c w hn hB hlen hm h
end Go.Proofs.Ytnngknmmokajgaa
