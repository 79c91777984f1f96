/- Words of 8, 32 and 64 bits as closed values for the walk: laws of the operations on them. -/
import Derived.WalkKit
import Derived.WalkSpells
import Derived.WalkLawsBesides
import Derived.Laws.StructEq
namespace Go.Proofs.Ytchjcfbhpgigjaa
open Go.RowKit


/-- A word of 32 bits as a value; the walk never lays it open. -/
def q32 (x : BitVec 32) : Value := .int .u32 (x.toNat : Int)
theorem ofInt_toNat_q32 (a : BitVec 32) : BitVec.ofInt 32 (a.toNat : Int) = a := by simp
theorem wrap_toNat_q32 (a : BitVec 32) : IntKind.u32.wrap (a.toNat : Int) = (a.toNat : Int) := by
  have := a.isLt; rw [IntKind.wrap_u32]; omega
theorem q32_eq (a b : BitVec 32) : ((a.toNat : Int) == (b.toNat : Int)) = (a == b) := by
  rw [Bool.eq_iff_iff]; simp
  exact ⟨fun h => BitVec.eq_of_toNat_eq (by omega), fun h => by rw [h]⟩
theorem q32_ne (a b : BitVec 32) : ((a.toNat : Int) != (b.toNat : Int)) = (a != b) := by
  simp only [bne, q32_eq]
theorem q32_inj (a b : BitVec 32) : q32 a = q32 b ↔ a = b :=
  ⟨fun h => by injection h with _ h; exact BitVec.eq_of_toNat_eq (by omega), fun h => by rw [h]⟩
theorem q32_ofInt (z : Int) (h0 : 0 ≤ z) (h1 : z < 4294967296) : Value.int .u32 z = q32 (BitVec.ofInt 32 z) := by
  unfold q32
  rw [BitVec.toNat_ofInt]
  congr 1
  omega
section
variable (t : TypeId) (a b : BitVec 32)
@[go_sem] theorem q32_add : binOp .add t (q32 a) (q32 b) = pure (q32 (a + b)) := by
  have e : IntKind.u32.wrap ((a.toNat : Int) + b.toNat) = ((a + b).toNat : Int) := by
    rw [IntKind.wrap_u32, BitVec.toNat_add]; omega
  simp [q32, binOp, Op.intArith, e]
@[go_sem] theorem q32_sub : binOp .sub t (q32 a) (q32 b) = pure (q32 (a - b)) := by
  have e : IntKind.u32.wrap ((a.toNat : Int) - b.toNat) = ((a - b).toNat : Int) := by
    have := a.isLt; have := b.isLt
    rw [IntKind.wrap_u32, BitVec.toNat_sub]; omega
  simp [q32, binOp, Op.intArith, e]
@[go_sem] theorem q32_xor : binOp .xor t (q32 a) (q32 b) = pure (q32 (a ^^^ b)) := by
  have e : IntKind.u32.wrap ((BitVec.ofInt 32 (a.toNat : Int) ^^^ BitVec.ofInt 32 (b.toNat : Int)).toNat : Int) = ((a ^^^ b).toNat : Int) := by
    rw [ofInt_toNat_q32, ofInt_toNat_q32, wrap_toNat_q32]
  show Op.intBits .xor .u32 _ _ = _
  exact congrArg (fun n => (pure (Value.int .u32 n) : Sem Value)) e
@[go_sem] theorem q32_xor_int (n : Int) : binOp .xor t (q32 a) (.int .u32 n) = pure (q32 (a ^^^ BitVec.ofInt 32 n)) := by
  have e : IntKind.u32.wrap ((BitVec.ofInt 32 (a.toNat : Int) ^^^ BitVec.ofInt 32 n).toNat : Int) = ((a ^^^ BitVec.ofInt 32 n).toNat : Int) := by
    rw [ofInt_toNat_q32, wrap_toNat_q32]
  show Op.intBits .xor .u32 _ _ = _
  exact congrArg (fun n => (pure (Value.int .u32 n) : Sem Value)) e
@[go_sem] theorem q32_or : binOp .or t (q32 a) (q32 b) = pure (q32 (a ||| b)) := by
  have e : IntKind.u32.wrap ((BitVec.ofInt 32 (a.toNat : Int) ||| BitVec.ofInt 32 (b.toNat : Int)).toNat : Int) = ((a ||| b).toNat : Int) := by
    rw [ofInt_toNat_q32, ofInt_toNat_q32, wrap_toNat_q32]
  show Op.intBits .or .u32 _ _ = _
  exact congrArg (fun n => (pure (Value.int .u32 n) : Sem Value)) e
@[go_sem] theorem q32_or_int (n : Int) : binOp .or t (q32 a) (.int .u32 n) = pure (q32 (a ||| BitVec.ofInt 32 n)) := by
  have e : IntKind.u32.wrap ((BitVec.ofInt 32 (a.toNat : Int) ||| BitVec.ofInt 32 n).toNat : Int) = ((a ||| BitVec.ofInt 32 n).toNat : Int) := by
    rw [ofInt_toNat_q32, wrap_toNat_q32]
  show Op.intBits .or .u32 _ _ = _
  exact congrArg (fun n => (pure (Value.int .u32 n) : Sem Value)) e
@[go_sem] theorem q32_and : binOp .and t (q32 a) (q32 b) = pure (q32 (a &&& b)) := by
  have e : IntKind.u32.wrap ((BitVec.ofInt 32 (a.toNat : Int) &&& BitVec.ofInt 32 (b.toNat : Int)).toNat : Int) = ((a &&& b).toNat : Int) := by
    rw [ofInt_toNat_q32, ofInt_toNat_q32, wrap_toNat_q32]
  show Op.intBits .and .u32 _ _ = _
  exact congrArg (fun n => (pure (Value.int .u32 n) : Sem Value)) e
@[go_sem] theorem q32_and_int (n : Int) : binOp .and t (q32 a) (.int .u32 n) = pure (q32 (a &&& BitVec.ofInt 32 n)) := by
  have e : IntKind.u32.wrap ((BitVec.ofInt 32 (a.toNat : Int) &&& BitVec.ofInt 32 n).toNat : Int) = ((a &&& BitVec.ofInt 32 n).toNat : Int) := by
    rw [ofInt_toNat_q32, wrap_toNat_q32]
  show Op.intBits .and .u32 _ _ = _
  exact congrArg (fun n => (pure (Value.int .u32 n) : Sem Value)) e
@[go_sem] theorem q32_eql : binOp .eql t (q32 a) (q32 b) = pure (.bool (a == b)) := by
  show binOp .eql t (.int .u32 _) (.int .u32 _) = _
  rw [binOp_eql, q32_eq]
@[go_sem] theorem q32_neq : binOp .neq t (q32 a) (q32 b) = pure (.bool (a != b)) := by
  show binOp .neq t (.int .u32 _) (.int .u32 _) = _
  rw [binOp_neq, q32_ne]
theorem q32_lit (n : Int) (h0 : 0 ≤ n) (h1 : n < 4294967296) : ((BitVec.ofInt 32 n).toNat : Int) = n := by
  rw [BitVec.toNat_ofInt]; omega
@[go_sem] theorem q32_eql_int (n : Int) (h0 : 0 ≤ n) (h1 : n < 4294967296) : binOp .eql t (q32 a) (.int .u32 n) = pure (.bool (a == BitVec.ofInt 32 n)) := by
  show binOp .eql t (.int .u32 _) (.int .u32 _) = _
  rw [binOp_eql, ← q32_eq, q32_lit n h0 h1]
@[go_sem] theorem q32_neq_int (n : Int) (h0 : 0 ≤ n) (h1 : n < 4294967296) : binOp .neq t (q32 a) (.int .u32 n) = pure (.bool (a != BitVec.ofInt 32 n)) := by
  show binOp .neq t (.int .u32 _) (.int .u32 _) = _
  rw [binOp_neq, ← q32_ne, q32_lit n h0 h1]
@[go_sem] theorem q32_shl (yk : IntKind) (n : Int) (h0 : 0 ≤ n) (hn : n ≤ 32) : binOp .shl t (q32 a) (.int yk n) = pure (q32 (a <<< n.toNat)) := by
  have e : IntKind.u32.wrap ((a.toNat : Int) * 2 ^ n.toNat) = ((a <<< n.toNat).toNat : Int) := by
    rw [IntKind.wrap_u32, BitVec.toNat_shiftLeft, Nat.shiftLeft_eq]
    simp
  show Op.shift .shl .u32 _ yk _ = _
  rw [shift_shl_u32 yk _ _ h0 hn]
  exact congrArg (fun n => (pure (Value.int .u32 n) : Sem Value)) e
@[go_sem] theorem q32_shr (yk : IntKind) (n : Int) (h0 : 0 ≤ n) (hn : n ≤ 32) : binOp .shr t (q32 a) (.int yk n) = pure (q32 (a >>> n.toNat)) := by
  have e : ((a.toNat : Int) / 2 ^ n.toNat) = ((a >>> n.toNat).toNat : Int) := by
    rw [BitVec.toNat_ushiftRight, Nat.shiftRight_eq_div_pow]
    simp
  show Op.shift .shr .u32 _ yk _ = _
  rw [shift_shr_u32 yk _ _ h0 hn]
  exact congrArg (fun n => (pure (Value.int .u32 n) : Sem Value)) e
@[go_sem] theorem q32_guard (op : BinOp) (x y : Operand) (v : Value) : eqGuard op t x y (q32 a) v = pure () := by cases op <;> rfl
@[go_sem] theorem q32_match : Value.cells.match_1 (fun _ => Array Value) (q32 a) (fun cs => cs) (fun v => #[v]) = #[q32 a] := rfl
@[go_sem ↓] theorem q32_cells : Value.cells (q32 a) = #[q32 a] := rfl
@[go_sem] theorem q32_one : Value.oneCell' (q32 a) = true := rfl
@[go_sem] theorem q32_store (P : Program) (w : World) (p : Addr) (m : Mode) : (store p (q32 a) m).run P w = stored P w p (q32 a) m := run_store P w p _ m rfl
@[go_sem] theorem q32_equalIn {P : Program} (w : World) (d : Nat) (k' : IntKind) (h : P.underlying t = some (.int k')) : (Op.equalIn (d + 1) t (q32 a) (q32 b)).run P w = .ok (a == b) w := by
  unfold q32
  rw [run_equalIn_int w d t .u32 k' _ _ h]
  exact congrArg (fun r => Result.ok r w) (q32_eq a b)
end

/-- A word of 64 bits as a value; the walk never lays it open. -/
def q64 (x : BitVec 64) : Value := .int .u64 (x.toNat : Int)
theorem ofInt_toNat_q64 (a : BitVec 64) : BitVec.ofInt 64 (a.toNat : Int) = a := by simp
theorem wrap_toNat_q64 (a : BitVec 64) : IntKind.u64.wrap (a.toNat : Int) = (a.toNat : Int) := by
  have := a.isLt; rw [IntKind.wrap_u64]; omega
theorem q64_eq (a b : BitVec 64) : ((a.toNat : Int) == (b.toNat : Int)) = (a == b) := by
  rw [Bool.eq_iff_iff]; simp
  exact ⟨fun h => BitVec.eq_of_toNat_eq (by omega), fun h => by rw [h]⟩
theorem q64_ne (a b : BitVec 64) : ((a.toNat : Int) != (b.toNat : Int)) = (a != b) := by
  simp only [bne, q64_eq]
theorem q64_inj (a b : BitVec 64) : q64 a = q64 b ↔ a = b :=
  ⟨fun h => by injection h with _ h; exact BitVec.eq_of_toNat_eq (by omega), fun h => by rw [h]⟩
theorem q64_ofInt (z : Int) (h0 : 0 ≤ z) (h1 : z < 18446744073709551616) : Value.int .u64 z = q64 (BitVec.ofInt 64 z) := by
  unfold q64
  rw [BitVec.toNat_ofInt]
  congr 1
  omega
section
variable (t : TypeId) (a b : BitVec 64)
@[go_sem] theorem q64_add : binOp .add t (q64 a) (q64 b) = pure (q64 (a + b)) := by
  have e : IntKind.u64.wrap ((a.toNat : Int) + b.toNat) = ((a + b).toNat : Int) := by
    rw [IntKind.wrap_u64, BitVec.toNat_add]; omega
  simp [q64, binOp, Op.intArith, e]
@[go_sem] theorem q64_sub : binOp .sub t (q64 a) (q64 b) = pure (q64 (a - b)) := by
  have e : IntKind.u64.wrap ((a.toNat : Int) - b.toNat) = ((a - b).toNat : Int) := by
    have := a.isLt; have := b.isLt
    rw [IntKind.wrap_u64, BitVec.toNat_sub]; omega
  simp [q64, binOp, Op.intArith, e]
@[go_sem] theorem q64_xor : binOp .xor t (q64 a) (q64 b) = pure (q64 (a ^^^ b)) := by
  have e : IntKind.u64.wrap ((BitVec.ofInt 64 (a.toNat : Int) ^^^ BitVec.ofInt 64 (b.toNat : Int)).toNat : Int) = ((a ^^^ b).toNat : Int) := by
    rw [ofInt_toNat_q64, ofInt_toNat_q64, wrap_toNat_q64]
  show Op.intBits .xor .u64 _ _ = _
  exact congrArg (fun n => (pure (Value.int .u64 n) : Sem Value)) e
@[go_sem] theorem q64_xor_int (n : Int) : binOp .xor t (q64 a) (.int .u64 n) = pure (q64 (a ^^^ BitVec.ofInt 64 n)) := by
  have e : IntKind.u64.wrap ((BitVec.ofInt 64 (a.toNat : Int) ^^^ BitVec.ofInt 64 n).toNat : Int) = ((a ^^^ BitVec.ofInt 64 n).toNat : Int) := by
    rw [ofInt_toNat_q64, wrap_toNat_q64]
  show Op.intBits .xor .u64 _ _ = _
  exact congrArg (fun n => (pure (Value.int .u64 n) : Sem Value)) e
@[go_sem] theorem q64_or : binOp .or t (q64 a) (q64 b) = pure (q64 (a ||| b)) := by
  have e : IntKind.u64.wrap ((BitVec.ofInt 64 (a.toNat : Int) ||| BitVec.ofInt 64 (b.toNat : Int)).toNat : Int) = ((a ||| b).toNat : Int) := by
    rw [ofInt_toNat_q64, ofInt_toNat_q64, wrap_toNat_q64]
  show Op.intBits .or .u64 _ _ = _
  exact congrArg (fun n => (pure (Value.int .u64 n) : Sem Value)) e
@[go_sem] theorem q64_or_int (n : Int) : binOp .or t (q64 a) (.int .u64 n) = pure (q64 (a ||| BitVec.ofInt 64 n)) := by
  have e : IntKind.u64.wrap ((BitVec.ofInt 64 (a.toNat : Int) ||| BitVec.ofInt 64 n).toNat : Int) = ((a ||| BitVec.ofInt 64 n).toNat : Int) := by
    rw [ofInt_toNat_q64, wrap_toNat_q64]
  show Op.intBits .or .u64 _ _ = _
  exact congrArg (fun n => (pure (Value.int .u64 n) : Sem Value)) e
@[go_sem] theorem q64_and : binOp .and t (q64 a) (q64 b) = pure (q64 (a &&& b)) := by
  have e : IntKind.u64.wrap ((BitVec.ofInt 64 (a.toNat : Int) &&& BitVec.ofInt 64 (b.toNat : Int)).toNat : Int) = ((a &&& b).toNat : Int) := by
    rw [ofInt_toNat_q64, ofInt_toNat_q64, wrap_toNat_q64]
  show Op.intBits .and .u64 _ _ = _
  exact congrArg (fun n => (pure (Value.int .u64 n) : Sem Value)) e
@[go_sem] theorem q64_and_int (n : Int) : binOp .and t (q64 a) (.int .u64 n) = pure (q64 (a &&& BitVec.ofInt 64 n)) := by
  have e : IntKind.u64.wrap ((BitVec.ofInt 64 (a.toNat : Int) &&& BitVec.ofInt 64 n).toNat : Int) = ((a &&& BitVec.ofInt 64 n).toNat : Int) := by
    rw [ofInt_toNat_q64, wrap_toNat_q64]
  show Op.intBits .and .u64 _ _ = _
  exact congrArg (fun n => (pure (Value.int .u64 n) : Sem Value)) e
@[go_sem] theorem q64_eql : binOp .eql t (q64 a) (q64 b) = pure (.bool (a == b)) := by
  show binOp .eql t (.int .u64 _) (.int .u64 _) = _
  rw [binOp_eql, q64_eq]
@[go_sem] theorem q64_neq : binOp .neq t (q64 a) (q64 b) = pure (.bool (a != b)) := by
  show binOp .neq t (.int .u64 _) (.int .u64 _) = _
  rw [binOp_neq, q64_ne]
theorem q64_lit (n : Int) (h0 : 0 ≤ n) (h1 : n < 18446744073709551616) : ((BitVec.ofInt 64 n).toNat : Int) = n := by
  rw [BitVec.toNat_ofInt]; omega
@[go_sem] theorem q64_eql_int (n : Int) (h0 : 0 ≤ n) (h1 : n < 18446744073709551616) : binOp .eql t (q64 a) (.int .u64 n) = pure (.bool (a == BitVec.ofInt 64 n)) := by
  show binOp .eql t (.int .u64 _) (.int .u64 _) = _
  rw [binOp_eql, ← q64_eq, q64_lit n h0 h1]
@[go_sem] theorem q64_neq_int (n : Int) (h0 : 0 ≤ n) (h1 : n < 18446744073709551616) : binOp .neq t (q64 a) (.int .u64 n) = pure (.bool (a != BitVec.ofInt 64 n)) := by
  show binOp .neq t (.int .u64 _) (.int .u64 _) = _
  rw [binOp_neq, ← q64_ne, q64_lit n h0 h1]
@[go_sem] theorem q64_shl (yk : IntKind) (n : Int) (h0 : 0 ≤ n) (hn : n ≤ 64) : binOp .shl t (q64 a) (.int yk n) = pure (q64 (a <<< n.toNat)) := by
  have e : IntKind.u64.wrap ((a.toNat : Int) * 2 ^ n.toNat) = ((a <<< n.toNat).toNat : Int) := by
    rw [IntKind.wrap_u64, BitVec.toNat_shiftLeft, Nat.shiftLeft_eq]
    simp
  show Op.shift .shl .u64 _ yk _ = _
  rw [shift_shl_u64 yk _ _ h0 hn]
  exact congrArg (fun n => (pure (Value.int .u64 n) : Sem Value)) e
@[go_sem] theorem q64_shr (yk : IntKind) (n : Int) (h0 : 0 ≤ n) (hn : n ≤ 64) : binOp .shr t (q64 a) (.int yk n) = pure (q64 (a >>> n.toNat)) := by
  have e : ((a.toNat : Int) / 2 ^ n.toNat) = ((a >>> n.toNat).toNat : Int) := by
    rw [BitVec.toNat_ushiftRight, Nat.shiftRight_eq_div_pow]
    simp
  show Op.shift .shr .u64 _ yk _ = _
  rw [shift_shr_u64 yk _ _ h0 hn]
  exact congrArg (fun n => (pure (Value.int .u64 n) : Sem Value)) e
@[go_sem] theorem q64_guard (op : BinOp) (x y : Operand) (v : Value) : eqGuard op t x y (q64 a) v = pure () := by cases op <;> rfl
@[go_sem] theorem q64_match : Value.cells.match_1 (fun _ => Array Value) (q64 a) (fun cs => cs) (fun v => #[v]) = #[q64 a] := rfl
@[go_sem ↓] theorem q64_cells : Value.cells (q64 a) = #[q64 a] := rfl
@[go_sem] theorem q64_one : Value.oneCell' (q64 a) = true := rfl
@[go_sem] theorem q64_store (P : Program) (w : World) (p : Addr) (m : Mode) : (store p (q64 a) m).run P w = stored P w p (q64 a) m := run_store P w p _ m rfl
@[go_sem] theorem q64_equalIn {P : Program} (w : World) (d : Nat) (k' : IntKind) (h : P.underlying t = some (.int k')) : (Op.equalIn (d + 1) t (q64 a) (q64 b)).run P w = .ok (a == b) w := by
  unfold q64
  rw [run_equalIn_int w d t .u64 k' _ _ h]
  exact congrArg (fun r => Result.ok r w) (q64_eq a b)
end

/-- A byte as a value. -/
def q8 (x : UInt8) : Value := .int .u8 (x.toNat : Int)
theorem ofInt_toNat_q8 (a : UInt8) : BitVec.ofInt 8 (a.toNat : Int) = a.toBitVec := by
  apply BitVec.eq_of_toNat_eq
  have := a.toNat_lt
  simp
theorem q8_eq (a b : UInt8) : ((a.toNat : Int) == (b.toNat : Int)) = (a == b) := by
  rw [Bool.eq_iff_iff]; simp
  exact ⟨fun h => UInt8.toNat_inj.1 (by omega), fun h => by rw [h]⟩
theorem q8_ne (a b : UInt8) : ((a.toNat : Int) != (b.toNat : Int)) = (a != b) := by
  simp only [bne, q8_eq]
theorem q8_inj (a b : UInt8) : q8 a = q8 b ↔ a = b :=
  ⟨fun h => by injection h with _ h; exact UInt8.toNat_inj.1 (by omega), fun h => by rw [h]⟩
theorem q8_ofInt (z : Int) (h0 : 0 ≤ z) (h1 : z < 256) : Value.int .u8 z = q8 (UInt8.ofNat z.toNat) := by
  unfold q8
  congr 1
  rw [UInt8.toNat_ofNat']
  omega
section
variable (t : TypeId) (a b : UInt8)
@[go_sem] theorem q8_xor : binOp .xor t (q8 a) (q8 b) = pure (q8 (a ^^^ b)) := by
  have e : IntKind.u8.wrap ((BitVec.ofInt 8 (a.toNat : Int) ^^^ BitVec.ofInt 8 (b.toNat : Int)).toNat : Int) = ((a ^^^ b).toNat : Int) := by
    rw [ofInt_toNat_q8, ofInt_toNat_q8, IntKind.wrap_u8]
    have h : (a.toBitVec ^^^ b.toBitVec).toNat = (a ^^^ b).toNat := rfl
    have := (a ^^^ b).toNat_lt
    rw [h]; omega
  show Op.intBits .xor .u8 _ _ = _
  exact congrArg (fun n => (pure (Value.int .u8 n) : Sem Value)) e
@[go_sem] theorem q8_quo2 : binOp .quo t (q8 a) (.int .u8 2) = pure (q8 (a / 2)) := by
  have e : (IntKind.u8.wrap ((a.toNat : Int).tdiv 2)) = ((a / 2).toNat : Int) := by
    have := a.toNat_lt
    rw [IntKind.wrap_u8, UInt8.toNat_div, Int.tdiv_eq_ediv_of_nonneg (by omega)]
    simp; omega
  show binOp .quo t (.int .u8 _) (.int .u8 _) = _
  rw [binOp_quo]
  unfold Op.intDiv
  simp only [show ¬ ((2 : Int) = 0) by decide, if_false]
  exact congrArg (fun n => (pure (Value.int .u8 n) : Sem Value)) e
@[go_sem] theorem q8_rem2 : binOp .rem t (q8 a) (.int .u8 2) = pure (q8 (a % 2)) := by
  have e : (((a.toNat : Int).tmod 2)) = ((a % 2).toNat : Int) := by
    have := a.toNat_lt
    rw [UInt8.toNat_mod, Int.tmod_eq_emod_of_nonneg (by omega)]
    simp
  show binOp .rem t (.int .u8 _) (.int .u8 _) = _
  rw [binOp_rem]
  unfold Op.intDiv
  simp only [show ¬ ((2 : Int) = 0) by decide, if_false]
  exact congrArg (fun n => (pure (Value.int .u8 n) : Sem Value)) e
@[go_sem] theorem q8_eql : binOp .eql t (q8 a) (q8 b) = pure (.bool (a == b)) := by
  show binOp .eql t (.int .u8 _) (.int .u8 _) = _
  rw [binOp_eql, q8_eq]
@[go_sem] theorem q8_neq : binOp .neq t (q8 a) (q8 b) = pure (.bool (a != b)) := by
  show binOp .neq t (.int .u8 _) (.int .u8 _) = _
  rw [binOp_neq, q8_ne]
@[go_sem] theorem q8_guard (op : BinOp) (x y : Operand) (v : Value) : eqGuard op t x y (q8 a) v = pure () := by cases op <;> rfl
@[go_sem] theorem q8_match : Value.cells.match_1 (fun _ => Array Value) (q8 a) (fun cs => cs) (fun v => #[v]) = #[q8 a] := rfl
@[go_sem ↓] theorem q8_cells : Value.cells (q8 a) = #[q8 a] := rfl
@[go_sem] theorem q8_one : Value.oneCell' (q8 a) = true := rfl
@[go_sem] theorem q8_store (P : Program) (w : World) (p : Addr) (m : Mode) : (store p (q8 a) m).run P w = stored P w p (q8 a) m := run_store P w p _ m rfl
@[go_sem] theorem q8_equalIn {P : Program} (w : World) (d : Nat) (k' : IntKind) (h : P.underlying t = some (.int k')) : (Op.equalIn (d + 1) t (q8 a) (q8 b)).run P w = .ok (a == b) w := by
  unfold q8
  rw [run_equalIn_int w d t .u8 k' _ _ h]
  exact congrArg (fun r => Result.ok r w) (q8_eq a b)
end
section
variable (t : TypeId) (a : BitVec 64) (n : Int)
@[go_sem] theorem q64_mul_int : binOp .mul t (q64 a) (.int .u64 n) = pure (q64 (a * BitVec.ofInt 64 n)) := by
  have e : IntKind.u64.wrap ((a.toNat : Int) * n) = ((a * BitVec.ofInt 64 n).toNat : Int) := by
    rw [IntKind.wrap_u64, BitVec.toNat_mul, BitVec.toNat_ofInt]
    have h : ((n % 18446744073709551616).toNat : Int) = n % 18446744073709551616 := by omega
    simp only [Int.natCast_emod, Int.natCast_mul]
    show _ = ((a.toNat : Int) * ((n % 18446744073709551616).toNat : Int)) % 18446744073709551616
    rw [h, Int.mul_emod (a.toNat : Int) n, Int.mul_emod (a.toNat : Int) (n % 18446744073709551616), Int.emod_emod_of_dvd n (Int.dvd_refl _)]
  simp [q64, binOp, Op.intArith, e]
@[go_sem] theorem q64_int_sub : binOp .sub t (.int .u64 n) (q64 a) = pure (q64 (BitVec.ofInt 64 n - a)) := by
  have e : IntKind.u64.wrap (n - (a.toNat : Int)) = ((BitVec.ofInt 64 n - a).toNat : Int) := by
    have := a.isLt
    rw [IntKind.wrap_u64, BitVec.toNat_sub, BitVec.toNat_ofInt]
    omega
  simp [q64, binOp, Op.intArith, e]
end
section
variable {P : Program} (w : World) (src dst : TypeId)
@[go_sem] theorem conv_8_64 (a : UInt8) (hs : (P.underlying src).isSome = true) (hd : P.underlying dst = some (.int .u64)) :
    (convert src dst (q8 a)).run P w = .ok (q64 (BitVec.ofNat 64 a.toNat)) w := by
  obtain ⟨d, hd'⟩ := Option.isSome_iff_exists.mp hs
  have e : IntKind.u64.wrap (a.toNat : Int) = ((BitVec.ofNat 64 a.toNat).toNat : Int) := by
    have := a.toNat_lt
    rw [IntKind.wrap_u64, BitVec.toNat_ofNat]; omega
  simp [q8, convert, run_underlying hd', run_underlying hd, Conv.intToInt, e, q64]
@[go_sem] theorem conv_8_i64 (a : UInt8) (hs : (P.underlying src).isSome = true) (hd : P.underlying dst = some (.int .i64)) :
    (convert src dst (q8 a)).run P w = .ok (.int .i64 a.toNat) w := by
  obtain ⟨d, hd'⟩ := Option.isSome_iff_exists.mp hs
  have e : IntKind.i64.wrap (a.toNat : Int) = (a.toNat : Int) := by
    have := a.toNat_lt
    rw [IntKind.wrap_i64]; omega
  simp [q8, convert, run_underlying hd', run_underlying hd, Conv.intToInt, e]
@[go_sem] theorem conv_32_8 (a : BitVec 32) (hs : (P.underlying src).isSome = true) (hd : P.underlying dst = some (.int .u8)) :
    (convert src dst (q32 a)).run P w = .ok (q8 (UInt8.ofBitVec (a.setWidth 8))) w := by
  obtain ⟨d, hd'⟩ := Option.isSome_iff_exists.mp hs
  have e : IntKind.u8.wrap (a.toNat : Int) = ((UInt8.ofBitVec (a.setWidth 8)).toNat : Int) := by
    have h : (UInt8.ofBitVec (a.setWidth 8)).toNat = a.toNat % 256 := by
      show (a.setWidth 8).toNat = _
      rw [BitVec.toNat_setWidth]
    rw [IntKind.wrap_u8, h]; omega
  simp [q32, convert, run_underlying hd', run_underlying hd, Conv.intToInt, e, q8]
@[go_sem] theorem conv_64_8 (a : BitVec 64) (hs : (P.underlying src).isSome = true) (hd : P.underlying dst = some (.int .u8)) :
    (convert src dst (q64 a)).run P w = .ok (q8 (UInt8.ofBitVec (a.setWidth 8))) w := by
  obtain ⟨d, hd'⟩ := Option.isSome_iff_exists.mp hs
  have e : IntKind.u8.wrap (a.toNat : Int) = ((UInt8.ofBitVec (a.setWidth 8)).toNat : Int) := by
    have h : (UInt8.ofBitVec (a.setWidth 8)).toNat = a.toNat % 256 := by
      show (a.setWidth 8).toNat = _
      rw [BitVec.toNat_setWidth]
    rw [IntKind.wrap_u8, h]; omega
  simp [q64, convert, run_underlying hd', run_underlying hd, Conv.intToInt, e, q8]
end

section
variable {P : Program} (w : World) (src dst : TypeId)
@[go_sem] theorem conv_32_64 (a : BitVec 32) (hs : (P.underlying src).isSome = true) (hd : P.underlying dst = some (.int .u64)) :
    (convert src dst (q32 a)).run P w = .ok (q64 (a.setWidth 64)) w := by
  obtain ⟨d, hd'⟩ := Option.isSome_iff_exists.mp hs
  have e : IntKind.u64.wrap (a.toNat : Int) = ((a.setWidth 64).toNat : Int) := by
    have := a.isLt
    rw [IntKind.wrap_u64, BitVec.toNat_setWidth]; omega
  simp [q32, convert, run_underlying hd', run_underlying hd, Conv.intToInt, e, q64]
@[go_sem] theorem conv_64_32 (a : BitVec 64) (hs : (P.underlying src).isSome = true) (hd : P.underlying dst = some (.int .u32)) :
    (convert src dst (q64 a)).run P w = .ok (q32 (a.setWidth 32)) w := by
  obtain ⟨d, hd'⟩ := Option.isSome_iff_exists.mp hs
  have e : IntKind.u32.wrap (a.toNat : Int) = ((a.setWidth 32).toNat : Int) := by
    rw [IntKind.wrap_u32, BitVec.toNat_setWidth]; omega
  simp [q64, convert, run_underlying hd', run_underlying hd, Conv.intToInt, e, q32]
end
end Go.Proofs.Ytchjcfbhpgigjaa
