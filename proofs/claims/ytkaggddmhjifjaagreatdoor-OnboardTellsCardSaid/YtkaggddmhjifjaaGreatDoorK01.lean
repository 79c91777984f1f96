/- Texts in one: Ground. -/
import Derived.WalkKit
import Derived.WalkSpells
import Derived.WalkLawsBesides
import Derived.Laws.StructEq
import Derived.Below
import Derived.Laws.OwnMore
import Derived.Deep.Draws
import Derived.Laws.Rows
import Derived.ChangeKeysEq
import Derived.Deep.AppendLies
import Derived.Maps.AppendAt
import Derived.RegionTactic
import Derived.OwnWalk
import Derived.Deep.QuietTactic
import Derived.BigQuiet
import Derived.Laws.Tables
import Derived.Deep.MidRow
set_option linter.unusedSimpArgs false
set_option linter.unusedVariables false
namespace Go.Proofs.YtkaggddmhjifjaaGreatDoor
open Go.RowKit
def q32 (x : BitVec 32) : Value := .int .u32 (x.toNat : Int)
theorem ofInt_toNat_q32 (a : BitVec 32) : BitVec.ofInt 32 (a.toNat : Int) = a := by simp
theorem wrap_toNat_q32 (a : BitVec 32) : IntKind.u32.wrap (a.toNat : Int) = (a.toNat : Int) := by
 have := a.isLt; rw [IntKind.wrap_u32]; omega
theorem q32_eq (a b : BitVec 32) : ((a.toNat : Int) == (b.toNat : Int)) = (a == b) := by
 rw [Bool.eq_iff_iff]; simp
 exact ⟨fun h => BitVec.eq_of_toNat_eq (by omega), fun h => by rw [h]⟩
theorem q32_ne (a b : BitVec 32) : ((a.toNat : Int) != (b.toNat : Int)) = (a != b) := by
 simp only [bne, q32_eq]
theorem q32_ofInt (z : Int) (h0 : 0 ≤ z) (h1 : z < 4294967296) : Value.int .u32 z = q32 (BitVec.ofInt 32 z) := by
 unfold q32
 rw [BitVec.toNat_ofInt]
 congr 1
 omega
section
variable (t : TypeId) (a b : BitVec 32)
@[go_sem] theorem q32_add : binOp .add t (q32 a) (q32 b) = pure (q32 (a + b)) := by
 have e : IntKind.u32.wrap ((a.toNat : Int) + b.toNat) = ((a + b).toNat : Int) := by
  rw [IntKind.wrap_u32, BitVec.toNat_add]; omega
 simp [q32, binOp, Op.intArith, e]
@[go_sem] theorem q32_sub : binOp .sub t (q32 a) (q32 b) = pure (q32 (a - b)) := by
 have e : IntKind.u32.wrap ((a.toNat : Int) - b.toNat) = ((a - b).toNat : Int) := by
  have := a.isLt; have := b.isLt
  rw [IntKind.wrap_u32, BitVec.toNat_sub]; omega
 simp [q32, binOp, Op.intArith, e]
@[go_sem] theorem q32_xor : binOp .xor t (q32 a) (q32 b) = pure (q32 (a ^^^ b)) := by
 have e : IntKind.u32.wrap ((BitVec.ofInt 32 (a.toNat : Int) ^^^ BitVec.ofInt 32 (b.toNat : Int)).toNat : Int) = ((a ^^^ b).toNat : Int) := by
  rw [ofInt_toNat_q32, ofInt_toNat_q32, wrap_toNat_q32]
 show Op.intBits .xor .u32 _ _ = _
 exact congrArg (fun n => (pure (Value.int .u32 n) : Sem Value)) e
@[go_sem] theorem q32_xor_int (n : Int) : binOp .xor t (q32 a) (.int .u32 n) = pure (q32 (a ^^^ BitVec.ofInt 32 n)) := by
 have e : IntKind.u32.wrap ((BitVec.ofInt 32 (a.toNat : Int) ^^^ BitVec.ofInt 32 n).toNat : Int) = ((a ^^^ BitVec.ofInt 32 n).toNat : Int) := by
  rw [ofInt_toNat_q32, wrap_toNat_q32]
 show Op.intBits .xor .u32 _ _ = _
 exact congrArg (fun n => (pure (Value.int .u32 n) : Sem Value)) e
@[go_sem] theorem q32_or : binOp .or t (q32 a) (q32 b) = pure (q32 (a ||| b)) := by
 have e : IntKind.u32.wrap ((BitVec.ofInt 32 (a.toNat : Int) ||| BitVec.ofInt 32 (b.toNat : Int)).toNat : Int) = ((a ||| b).toNat : Int) := by
  rw [ofInt_toNat_q32, ofInt_toNat_q32, wrap_toNat_q32]
 show Op.intBits .or .u32 _ _ = _
 exact congrArg (fun n => (pure (Value.int .u32 n) : Sem Value)) e
@[go_sem] theorem q32_or_int (n : Int) : binOp .or t (q32 a) (.int .u32 n) = pure (q32 (a ||| BitVec.ofInt 32 n)) := by
 have e : IntKind.u32.wrap ((BitVec.ofInt 32 (a.toNat : Int) ||| BitVec.ofInt 32 n).toNat : Int) = ((a ||| BitVec.ofInt 32 n).toNat : Int) := by
  rw [ofInt_toNat_q32, wrap_toNat_q32]
 show Op.intBits .or .u32 _ _ = _
 exact congrArg (fun n => (pure (Value.int .u32 n) : Sem Value)) e
@[go_sem] theorem q32_and : binOp .and t (q32 a) (q32 b) = pure (q32 (a &&& b)) := by
 have e : IntKind.u32.wrap ((BitVec.ofInt 32 (a.toNat : Int) &&& BitVec.ofInt 32 (b.toNat : Int)).toNat : Int) = ((a &&& b).toNat : Int) := by
  rw [ofInt_toNat_q32, ofInt_toNat_q32, wrap_toNat_q32]
 show Op.intBits .and .u32 _ _ = _
 exact congrArg (fun n => (pure (Value.int .u32 n) : Sem Value)) e
@[go_sem] theorem q32_and_int (n : Int) : binOp .and t (q32 a) (.int .u32 n) = pure (q32 (a &&& BitVec.ofInt 32 n)) := by
 have e : IntKind.u32.wrap ((BitVec.ofInt 32 (a.toNat : Int) &&& BitVec.ofInt 32 n).toNat : Int) = ((a &&& BitVec.ofInt 32 n).toNat : Int) := by
  rw [ofInt_toNat_q32, wrap_toNat_q32]
 show Op.intBits .and .u32 _ _ = _
 exact congrArg (fun n => (pure (Value.int .u32 n) : Sem Value)) e
@[go_sem] theorem q32_eql : binOp .eql t (q32 a) (q32 b) = pure (.bool (a == b)) := by
 show binOp .eql t (.int .u32 _) (.int .u32 _) = _
 rw [binOp_eql, q32_eq]
@[go_sem] theorem q32_neq : binOp .neq t (q32 a) (q32 b) = pure (.bool (a != b)) := by
 show binOp .neq t (.int .u32 _) (.int .u32 _) = _
 rw [binOp_neq, q32_ne]
theorem q32_lit (n : Int) (h0 : 0 ≤ n) (h1 : n < 4294967296) : ((BitVec.ofInt 32 n).toNat : Int) = n := by
 rw [BitVec.toNat_ofInt]; omega
@[go_sem] theorem q32_eql_int (n : Int) (h0 : 0 ≤ n) (h1 : n < 4294967296) : binOp .eql t (q32 a) (.int .u32 n) = pure (.bool (a == BitVec.ofInt 32 n)) := by
 show binOp .eql t (.int .u32 _) (.int .u32 _) = _
 rw [binOp_eql, ← q32_eq, q32_lit n h0 h1]
@[go_sem] theorem q32_neq_int (n : Int) (h0 : 0 ≤ n) (h1 : n < 4294967296) : binOp .neq t (q32 a) (.int .u32 n) = pure (.bool (a != BitVec.ofInt 32 n)) := by
 show binOp .neq t (.int .u32 _) (.int .u32 _) = _
 rw [binOp_neq, ← q32_ne, q32_lit n h0 h1]
@[go_sem] theorem q32_shl (yk : IntKind) (n : Int) (h0 : 0 ≤ n) (hn : n ≤ 32) : binOp .shl t (q32 a) (.int yk n) = pure (q32 (a <<< n.toNat)) := by
 have e : IntKind.u32.wrap ((a.toNat : Int) * 2 ^ n.toNat) = ((a <<< n.toNat).toNat : Int) := by
  rw [IntKind.wrap_u32, BitVec.toNat_shiftLeft, Nat.shiftLeft_eq]
  simp
 show Op.shift .shl .u32 _ yk _ = _
 rw [shift_shl_u32 yk _ _ h0 hn]
 exact congrArg (fun n => (pure (Value.int .u32 n) : Sem Value)) e
@[go_sem] theorem q32_shr (yk : IntKind) (n : Int) (h0 : 0 ≤ n) (hn : n ≤ 32) : binOp .shr t (q32 a) (.int yk n) = pure (q32 (a >>> n.toNat)) := by
 have e : ((a.toNat : Int) / 2 ^ n.toNat) = ((a >>> n.toNat).toNat : Int) := by
  rw [BitVec.toNat_ushiftRight, Nat.shiftRight_eq_div_pow]
  simp
 show Op.shift .shr .u32 _ yk _ = _
 rw [shift_shr_u32 yk _ _ h0 hn]
 exact congrArg (fun n => (pure (Value.int .u32 n) : Sem Value)) e
@[go_sem] theorem q32_guard (op : BinOp) (x y : Operand) (v : Value) : eqGuard op t x y (q32 a) v = pure () := by cases op <;> rfl
@[go_sem] theorem q32_match : Value.cells.match_1 (fun _ => Array Value) (q32 a) (fun cs => cs) (fun v => #[v]) = #[q32 a] := rfl
@[go_sem ↓] theorem q32_cells : Value.cells (q32 a) = #[q32 a] := rfl
@[go_sem] theorem q32_one : Value.oneCell' (q32 a) = true := rfl
@[go_sem] theorem q32_store (P : Program) (w : World) (p : Addr) (m : Mode) : (store p (q32 a) m).run P w = stored P w p (q32 a) m := run_store P w p _ m rfl
@[go_sem] theorem q32_equalIn {P : Program} (w : World) (d : Nat) (k' : IntKind) (h : P.underlying t = some (.int k')) : (Op.equalIn (d + 1) t (q32 a) (q32 b)).run P w = .ok (a == b) w := by
 unfold q32
 rw [run_equalIn_int w d t .u32 k' _ _ h]
 exact congrArg (fun r => Result.ok r w) (q32_eq a b)
end
def q64 (x : BitVec 64) : Value := .int .u64 (x.toNat : Int)
theorem ofInt_toNat_q64 (a : BitVec 64) : BitVec.ofInt 64 (a.toNat : Int) = a := by simp
theorem wrap_toNat_q64 (a : BitVec 64) : IntKind.u64.wrap (a.toNat : Int) = (a.toNat : Int) := by
 have := a.isLt; rw [IntKind.wrap_u64]; omega
theorem q64_eq (a b : BitVec 64) : ((a.toNat : Int) == (b.toNat : Int)) = (a == b) := by
 rw [Bool.eq_iff_iff]; simp
 exact ⟨fun h => BitVec.eq_of_toNat_eq (by omega), fun h => by rw [h]⟩
theorem q64_ne (a b : BitVec 64) : ((a.toNat : Int) != (b.toNat : Int)) = (a != b) := by
 simp only [bne, q64_eq]
section
variable (t : TypeId) (a b : BitVec 64)
@[go_sem] theorem q64_add : binOp .add t (q64 a) (q64 b) = pure (q64 (a + b)) := by
 have e : IntKind.u64.wrap ((a.toNat : Int) + b.toNat) = ((a + b).toNat : Int) := by
  rw [IntKind.wrap_u64, BitVec.toNat_add]; omega
 simp [q64, binOp, Op.intArith, e]
@[go_sem] theorem q64_sub : binOp .sub t (q64 a) (q64 b) = pure (q64 (a - b)) := by
 have e : IntKind.u64.wrap ((a.toNat : Int) - b.toNat) = ((a - b).toNat : Int) := by
  have := a.isLt; have := b.isLt
  rw [IntKind.wrap_u64, BitVec.toNat_sub]; omega
 simp [q64, binOp, Op.intArith, e]
@[go_sem] theorem q64_xor : binOp .xor t (q64 a) (q64 b) = pure (q64 (a ^^^ b)) := by
 have e : IntKind.u64.wrap ((BitVec.ofInt 64 (a.toNat : Int) ^^^ BitVec.ofInt 64 (b.toNat : Int)).toNat : Int) = ((a ^^^ b).toNat : Int) := by
  rw [ofInt_toNat_q64, ofInt_toNat_q64, wrap_toNat_q64]
 show Op.intBits .xor .u64 _ _ = _
 exact congrArg (fun n => (pure (Value.int .u64 n) : Sem Value)) e
@[go_sem] theorem q64_xor_int (n : Int) : binOp .xor t (q64 a) (.int .u64 n) = pure (q64 (a ^^^ BitVec.ofInt 64 n)) := by
 have e : IntKind.u64.wrap ((BitVec.ofInt 64 (a.toNat : Int) ^^^ BitVec.ofInt 64 n).toNat : Int) = ((a ^^^ BitVec.ofInt 64 n).toNat : Int) := by
  rw [ofInt_toNat_q64, wrap_toNat_q64]
 show Op.intBits .xor .u64 _ _ = _
 exact congrArg (fun n => (pure (Value.int .u64 n) : Sem Value)) e
@[go_sem] theorem q64_or : binOp .or t (q64 a) (q64 b) = pure (q64 (a ||| b)) := by
 have e : IntKind.u64.wrap ((BitVec.ofInt 64 (a.toNat : Int) ||| BitVec.ofInt 64 (b.toNat : Int)).toNat : Int) = ((a ||| b).toNat : Int) := by
  rw [ofInt_toNat_q64, ofInt_toNat_q64, wrap_toNat_q64]
 show Op.intBits .or .u64 _ _ = _
 exact congrArg (fun n => (pure (Value.int .u64 n) : Sem Value)) e
@[go_sem] theorem q64_or_int (n : Int) : binOp .or t (q64 a) (.int .u64 n) = pure (q64 (a ||| BitVec.ofInt 64 n)) := by
 have e : IntKind.u64.wrap ((BitVec.ofInt 64 (a.toNat : Int) ||| BitVec.ofInt 64 n).toNat : Int) = ((a ||| BitVec.ofInt 64 n).toNat : Int) := by
  rw [ofInt_toNat_q64, wrap_toNat_q64]
 show Op.intBits .or .u64 _ _ = _
 exact congrArg (fun n => (pure (Value.int .u64 n) : Sem Value)) e
@[go_sem] theorem q64_and : binOp .and t (q64 a) (q64 b) = pure (q64 (a &&& b)) := by
 have e : IntKind.u64.wrap ((BitVec.ofInt 64 (a.toNat : Int) &&& BitVec.ofInt 64 (b.toNat : Int)).toNat : Int) = ((a &&& b).toNat : Int) := by
  rw [ofInt_toNat_q64, ofInt_toNat_q64, wrap_toNat_q64]
 show Op.intBits .and .u64 _ _ = _
 exact congrArg (fun n => (pure (Value.int .u64 n) : Sem Value)) e
@[go_sem] theorem q64_and_int (n : Int) : binOp .and t (q64 a) (.int .u64 n) = pure (q64 (a &&& BitVec.ofInt 64 n)) := by
 have e : IntKind.u64.wrap ((BitVec.ofInt 64 (a.toNat : Int) &&& BitVec.ofInt 64 n).toNat : Int) = ((a &&& BitVec.ofInt 64 n).toNat : Int) := by
  rw [ofInt_toNat_q64, wrap_toNat_q64]
 show Op.intBits .and .u64 _ _ = _
 exact congrArg (fun n => (pure (Value.int .u64 n) : Sem Value)) e
@[go_sem] theorem q64_eql : binOp .eql t (q64 a) (q64 b) = pure (.bool (a == b)) := by
 show binOp .eql t (.int .u64 _) (.int .u64 _) = _
 rw [binOp_eql, q64_eq]
@[go_sem] theorem q64_neq : binOp .neq t (q64 a) (q64 b) = pure (.bool (a != b)) := by
 show binOp .neq t (.int .u64 _) (.int .u64 _) = _
 rw [binOp_neq, q64_ne]
theorem q64_lit (n : Int) (h0 : 0 ≤ n) (h1 : n < 18446744073709551616) : ((BitVec.ofInt 64 n).toNat : Int) = n := by
 rw [BitVec.toNat_ofInt]; omega
@[go_sem] theorem q64_eql_int (n : Int) (h0 : 0 ≤ n) (h1 : n < 18446744073709551616) : binOp .eql t (q64 a) (.int .u64 n) = pure (.bool (a == BitVec.ofInt 64 n)) := by
 show binOp .eql t (.int .u64 _) (.int .u64 _) = _
 rw [binOp_eql, ← q64_eq, q64_lit n h0 h1]
@[go_sem] theorem q64_neq_int (n : Int) (h0 : 0 ≤ n) (h1 : n < 18446744073709551616) : binOp .neq t (q64 a) (.int .u64 n) = pure (.bool (a != BitVec.ofInt 64 n)) := by
 show binOp .neq t (.int .u64 _) (.int .u64 _) = _
 rw [binOp_neq, ← q64_ne, q64_lit n h0 h1]
@[go_sem] theorem q64_shl (yk : IntKind) (n : Int) (h0 : 0 ≤ n) (hn : n ≤ 64) : binOp .shl t (q64 a) (.int yk n) = pure (q64 (a <<< n.toNat)) := by
 have e : IntKind.u64.wrap ((a.toNat : Int) * 2 ^ n.toNat) = ((a <<< n.toNat).toNat : Int) := by
  rw [IntKind.wrap_u64, BitVec.toNat_shiftLeft, Nat.shiftLeft_eq]
  simp
 show Op.shift .shl .u64 _ yk _ = _
 rw [shift_shl_u64 yk _ _ h0 hn]
 exact congrArg (fun n => (pure (Value.int .u64 n) : Sem Value)) e
@[go_sem] theorem q64_shr (yk : IntKind) (n : Int) (h0 : 0 ≤ n) (hn : n ≤ 64) : binOp .shr t (q64 a) (.int yk n) = pure (q64 (a >>> n.toNat)) := by
 have e : ((a.toNat : Int) / 2 ^ n.toNat) = ((a >>> n.toNat).toNat : Int) := by
  rw [BitVec.toNat_ushiftRight, Nat.shiftRight_eq_div_pow]
  simp
 show Op.shift .shr .u64 _ yk _ = _
 rw [shift_shr_u64 yk _ _ h0 hn]
 exact congrArg (fun n => (pure (Value.int .u64 n) : Sem Value)) e
@[go_sem] theorem q64_guard (op : BinOp) (x y : Operand) (v : Value) : eqGuard op t x y (q64 a) v = pure () := by cases op <;> rfl
@[go_sem] theorem q64_match : Value.cells.match_1 (fun _ => Array Value) (q64 a) (fun cs => cs) (fun v => #[v]) = #[q64 a] := rfl
@[go_sem ↓] theorem q64_cells : Value.cells (q64 a) = #[q64 a] := rfl
@[go_sem] theorem q64_one : Value.oneCell' (q64 a) = true := rfl
@[go_sem] theorem q64_store (P : Program) (w : World) (p : Addr) (m : Mode) : (store p (q64 a) m).run P w = stored P w p (q64 a) m := run_store P w p _ m rfl
@[go_sem] theorem q64_equalIn {P : Program} (w : World) (d : Nat) (k' : IntKind) (h : P.underlying t = some (.int k')) : (Op.equalIn (d + 1) t (q64 a) (q64 b)).run P w = .ok (a == b) w := by
 unfold q64
 rw [run_equalIn_int w d t .u64 k' _ _ h]
 exact congrArg (fun r => Result.ok r w) (q64_eq a b)
end
def q8 (x : UInt8) : Value := .int .u8 (x.toNat : Int)
theorem ofInt_toNat_q8 (a : UInt8) : BitVec.ofInt 8 (a.toNat : Int) = a.toBitVec := by
 apply BitVec.eq_of_toNat_eq
 have := a.toNat_lt
 simp
theorem q8_eq (a b : UInt8) : ((a.toNat : Int) == (b.toNat : Int)) = (a == b) := by
 rw [Bool.eq_iff_iff]; simp
 exact ⟨fun h => UInt8.toNat_inj.1 (by omega), fun h => by rw [h]⟩
theorem q8_ne (a b : UInt8) : ((a.toNat : Int) != (b.toNat : Int)) = (a != b) := by
 simp only [bne, q8_eq]
section
variable (t : TypeId) (a b : UInt8)
@[go_sem] theorem q8_xor : binOp .xor t (q8 a) (q8 b) = pure (q8 (a ^^^ b)) := by
 have e : IntKind.u8.wrap ((BitVec.ofInt 8 (a.toNat : Int) ^^^ BitVec.ofInt 8 (b.toNat : Int)).toNat : Int) = ((a ^^^ b).toNat : Int) := by
  rw [ofInt_toNat_q8, ofInt_toNat_q8, IntKind.wrap_u8]
  have h : (a.toBitVec ^^^ b.toBitVec).toNat = (a ^^^ b).toNat := rfl
  have := (a ^^^ b).toNat_lt
  rw [h]; omega
 show Op.intBits .xor .u8 _ _ = _
 exact congrArg (fun n => (pure (Value.int .u8 n) : Sem Value)) e
@[go_sem] theorem q8_quo2 : binOp .quo t (q8 a) (.int .u8 2) = pure (q8 (a / 2)) := by
 have e : (IntKind.u8.wrap ((a.toNat : Int).tdiv 2)) = ((a / 2).toNat : Int) := by
  have := a.toNat_lt
  rw [IntKind.wrap_u8, UInt8.toNat_div, Int.tdiv_eq_ediv_of_nonneg (by omega)]
  simp; omega
 show binOp .quo t (.int .u8 _) (.int .u8 _) = _
 rw [binOp_quo]
 unfold Op.intDiv
 simp only [show ¬ ((2 : Int) = 0) by decide, if_false]
 exact congrArg (fun n => (pure (Value.int .u8 n) : Sem Value)) e
@[go_sem] theorem q8_rem2 : binOp .rem t (q8 a) (.int .u8 2) = pure (q8 (a % 2)) := by
 have e : (((a.toNat : Int).tmod 2)) = ((a % 2).toNat : Int) := by
  have := a.toNat_lt
  rw [UInt8.toNat_mod, Int.tmod_eq_emod_of_nonneg (by omega)]
  simp
 show binOp .rem t (.int .u8 _) (.int .u8 _) = _
 rw [binOp_rem]
 unfold Op.intDiv
 simp only [show ¬ ((2 : Int) = 0) by decide, if_false]
 exact congrArg (fun n => (pure (Value.int .u8 n) : Sem Value)) e
@[go_sem] theorem q8_eql : binOp .eql t (q8 a) (q8 b) = pure (.bool (a == b)) := by
 show binOp .eql t (.int .u8 _) (.int .u8 _) = _
 rw [binOp_eql, q8_eq]
@[go_sem] theorem q8_neq : binOp .neq t (q8 a) (q8 b) = pure (.bool (a != b)) := by
 show binOp .neq t (.int .u8 _) (.int .u8 _) = _
 rw [binOp_neq, q8_ne]
@[go_sem] theorem q8_guard (op : BinOp) (x y : Operand) (v : Value) : eqGuard op t x y (q8 a) v = pure () := by cases op <;> rfl
@[go_sem] theorem q8_match : Value.cells.match_1 (fun _ => Array Value) (q8 a) (fun cs => cs) (fun v => #[v]) = #[q8 a] := rfl
@[go_sem ↓] theorem q8_cells : Value.cells (q8 a) = #[q8 a] := rfl
@[go_sem] theorem q8_one : Value.oneCell' (q8 a) = true := rfl
@[go_sem] theorem q8_store (P : Program) (w : World) (p : Addr) (m : Mode) : (store p (q8 a) m).run P w = stored P w p (q8 a) m := run_store P w p _ m rfl
@[go_sem] theorem q8_equalIn {P : Program} (w : World) (d : Nat) (k' : IntKind) (h : P.underlying t = some (.int k')) : (Op.equalIn (d + 1) t (q8 a) (q8 b)).run P w = .ok (a == b) w := by
 unfold q8
 rw [run_equalIn_int w d t .u8 k' _ _ h]
 exact congrArg (fun r => Result.ok r w) (q8_eq a b)
end
section
variable (t : TypeId) (a : BitVec 64) (n : Int)
@[go_sem] theorem q64_mul_int : binOp .mul t (q64 a) (.int .u64 n) = pure (q64 (a * BitVec.ofInt 64 n)) := by
 have e : IntKind.u64.wrap ((a.toNat : Int) * n) = ((a * BitVec.ofInt 64 n).toNat : Int) := by
  rw [IntKind.wrap_u64, BitVec.toNat_mul, BitVec.toNat_ofInt]
  have h : ((n % 18446744073709551616).toNat : Int) = n % 18446744073709551616 := by omega
  simp only [Int.natCast_emod, Int.natCast_mul]
  show _ = ((a.toNat : Int) * ((n % 18446744073709551616).toNat : Int)) % 18446744073709551616
  rw [h, Int.mul_emod (a.toNat : Int) n, Int.mul_emod (a.toNat : Int) (n % 18446744073709551616), Int.emod_emod_of_dvd n (Int.dvd_refl _)]
 simp [q64, binOp, Op.intArith, e]
@[go_sem] theorem q64_int_sub : binOp .sub t (.int .u64 n) (q64 a) = pure (q64 (BitVec.ofInt 64 n - a)) := by
 have e : IntKind.u64.wrap (n - (a.toNat : Int)) = ((BitVec.ofInt 64 n - a).toNat : Int) := by
  have := a.isLt
  rw [IntKind.wrap_u64, BitVec.toNat_sub, BitVec.toNat_ofInt]
  omega
 simp [q64, binOp, Op.intArith, e]
end
section
variable {P : Program} (w : World) (src dst : TypeId)
@[go_sem] theorem conv_8_64 (a : UInt8) (hs : (P.underlying src).isSome = true) (hd : P.underlying dst = some (.int .u64)) :
  (convert src dst (q8 a)).run P w = .ok (q64 (BitVec.ofNat 64 a.toNat)) w := by
 obtain ⟨d, hd'⟩ := Option.isSome_iff_exists.mp hs
 have e : IntKind.u64.wrap (a.toNat : Int) = ((BitVec.ofNat 64 a.toNat).toNat : Int) := by
  have := a.toNat_lt
  rw [IntKind.wrap_u64, BitVec.toNat_ofNat]; omega
 simp [q8, convert, run_underlying hd', run_underlying hd, Conv.intToInt, e, q64]
@[go_sem] theorem conv_8_i64 (a : UInt8) (hs : (P.underlying src).isSome = true) (hd : P.underlying dst = some (.int .i64)) :
  (convert src dst (q8 a)).run P w = .ok (.int .i64 a.toNat) w := by
 obtain ⟨d, hd'⟩ := Option.isSome_iff_exists.mp hs
 have e : IntKind.i64.wrap (a.toNat : Int) = (a.toNat : Int) := by
  have := a.toNat_lt
  rw [IntKind.wrap_i64]; omega
 simp [q8, convert, run_underlying hd', run_underlying hd, Conv.intToInt, e]
@[go_sem] theorem conv_32_8 (a : BitVec 32) (hs : (P.underlying src).isSome = true) (hd : P.underlying dst = some (.int .u8)) :
  (convert src dst (q32 a)).run P w = .ok (q8 (UInt8.ofBitVec (a.setWidth 8))) w := by
 obtain ⟨d, hd'⟩ := Option.isSome_iff_exists.mp hs
 have e : IntKind.u8.wrap (a.toNat : Int) = ((UInt8.ofBitVec (a.setWidth 8)).toNat : Int) := by
  have h : (UInt8.ofBitVec (a.setWidth 8)).toNat = a.toNat % 256 := by
   show (a.setWidth 8).toNat = _
   rw [BitVec.toNat_setWidth]
  rw [IntKind.wrap_u8, h]; omega
 simp [q32, convert, run_underlying hd', run_underlying hd, Conv.intToInt, e, q8]
@[go_sem] theorem conv_64_8 (a : BitVec 64) (hs : (P.underlying src).isSome = true) (hd : P.underlying dst = some (.int .u8)) :
  (convert src dst (q64 a)).run P w = .ok (q8 (UInt8.ofBitVec (a.setWidth 8))) w := by
 obtain ⟨d, hd'⟩ := Option.isSome_iff_exists.mp hs
 have e : IntKind.u8.wrap (a.toNat : Int) = ((UInt8.ofBitVec (a.setWidth 8)).toNat : Int) := by
  have h : (UInt8.ofBitVec (a.setWidth 8)).toNat = a.toNat % 256 := by
   show (a.setWidth 8).toNat = _
   rw [BitVec.toNat_setWidth]
  rw [IntKind.wrap_u8, h]; omega
 simp [q64, convert, run_underlying hd', run_underlying hd, Conv.intToInt, e, q8]
end
section
variable {P : Program} (w : World) (src dst : TypeId)
@[go_sem] theorem conv_32_64 (a : BitVec 32) (hs : (P.underlying src).isSome = true) (hd : P.underlying dst = some (.int .u64)) :
  (convert src dst (q32 a)).run P w = .ok (q64 (a.setWidth 64)) w := by
 obtain ⟨d, hd'⟩ := Option.isSome_iff_exists.mp hs
 have e : IntKind.u64.wrap (a.toNat : Int) = ((a.setWidth 64).toNat : Int) := by
  have := a.isLt
  rw [IntKind.wrap_u64, BitVec.toNat_setWidth]; omega
 simp [q32, convert, run_underlying hd', run_underlying hd, Conv.intToInt, e, q64]
@[go_sem] theorem conv_64_32 (a : BitVec 64) (hs : (P.underlying src).isSome = true) (hd : P.underlying dst = some (.int .u32)) :
  (convert src dst (q64 a)).run P w = .ok (q32 (a.setWidth 32)) w := by
 obtain ⟨d, hd'⟩ := Option.isSome_iff_exists.mp hs
 have e : IntKind.u32.wrap (a.toNat : Int) = ((a.setWidth 32).toNat : Int) := by
  rw [IntKind.wrap_u32, BitVec.toNat_setWidth]; omega
 simp [q64, convert, run_underlying hd', run_underlying hd, Conv.intToInt, e, q32]
end
end Go.Proofs.YtkaggddmhjifjaaGreatDoor
namespace Go.Proofs.YtkaggddmhjifjaaGreatDoor
theorem rot_back (x : BitVec 32) (a b : Nat) (h : a + b = 32) (ha : 0 < a) (hb : 0 < b) : (x.rotateLeft a).rotateLeft b = x := by
 apply BitVec.eq_of_getLsbD_eq
 intro i hi
 rw [BitVec.getLsbD_rotateLeft, Nat.mod_eq_of_lt (by omega : b < 32)]
 by_cases h1 : i < b
 ·
  rw [decide_eq_true h1, cond_true, BitVec.getLsbD_rotateLeft, Nat.mod_eq_of_lt (by omega : a < 32), decide_eq_false (by omega), cond_false, decide_eq_true (by omega), Bool.true_and]
  congr 1; omega
 ·
  rw [decide_eq_false h1, cond_false, decide_eq_true hi, Bool.true_and, BitVec.getLsbD_rotateLeft, Nat.mod_eq_of_lt (by omega : a < 32), decide_eq_true (by omega), cond_true]
  congr 1; omega
theorem xor_back (a b : BitVec 32) : (a ^^^ b) ^^^ b = a := by rw [BitVec.xor_assoc, BitVec.xor_self, BitVec.xor_zero]
theorem xor_front (a b : BitVec 32) : a ^^^ (b ^^^ a) = b := by rw [BitVec.xor_comm b a, ← BitVec.xor_assoc, BitVec.xor_self, BitVec.zero_xor]
def join2 (p : BitVec 32 × BitVec 32) : BitVec 64 := p.1.setWidth 64 <<< 32 ||| p.2.setWidth 64
def split2 (b : BitVec 64) : BitVec 32 × BitVec 32 := ((b >>> 32).setWidth 32, b.setWidth 32)
theorem join_split (b : BitVec 64) : join2 (split2 b) = b := by
 unfold join2 split2
 apply BitVec.eq_of_getLsbD_eq
 intro i hi
 by_cases h : i < 32
 ·
  simp [h, hi]
 ·
  have h1 : 32 + (i - 32) = i := by omega
  have h2 : i - 32 < 32 := by omega
  simp [-BitVec.getElem_ushiftRight, h, hi, h1, h2]
theorem split_join (p : BitVec 32 × BitVec 32) : split2 (join2 p) = p := by
 obtain ⟨x, y⟩ := p
 unfold join2 split2
 refine Prod.ext ?_ ?_
 ·
  apply BitVec.eq_of_getLsbD_eq
  intro i hi
  have h1 : 32 + i < 64 := by omega
  have h2 : i < 64 := by omega
  have h3 : ¬ (32 + i < 32) := by omega
  simp [hi, h1, h2]
 ·
  apply BitVec.eq_of_getLsbD_eq
  intro i hi
  simp [hi]
structure K4 where
 k0 : BitVec 32
 k1 : BitVec 32
 k2 : BitVec 32
 k3 : BitVec 32
deriving DecidableEq
def sched (k : K4) : Nat → BitVec 32 × BitVec 32 × BitVec 32 × BitVec 32
 | 0 => (k.k3, k.k2, k.k1, k.k0)
 | i + 1 =>
  let s := sched k i
  let l := (s.1 + s.2.1.rotateLeft 24) ^^^ BitVec.ofNat 32 i
  (s.1.rotateLeft 3 ^^^ l, s.2.2.1, s.2.2.2, l)
def rk (k : K4) (i : Nat) : BitVec 32 := (sched k i).1
def enc1 (r : BitVec 32) (p : BitVec 32 × BitVec 32) : BitVec 32 × BitVec 32 :=
 ((p.1.rotateLeft 24 + p.2) ^^^ r, p.2.rotateLeft 3 ^^^ ((p.1.rotateLeft 24 + p.2) ^^^ r))
def dec1 (r : BitVec 32) (p : BitVec 32 × BitVec 32) : BitVec 32 × BitVec 32 :=
 (((p.1 ^^^ r) - (p.1 ^^^ p.2).rotateLeft 29).rotateLeft 8, (p.1 ^^^ p.2).rotateLeft 29)
theorem dec_enc1 (r : BitVec 32) (p : BitVec 32 × BitVec 32) : dec1 r (enc1 r p) = p := by
 obtain ⟨x, y⟩ := p
 unfold dec1 enc1
 simp only [xor_front, xor_back]
 rw [rot_back y 3 29 rfl (by decide) (by decide), BitVec.add_sub_cancel, rot_back x 24 8 rfl (by decide) (by decide)]
def encN (k : K4) : Nat → BitVec 32 × BitVec 32 → BitVec 32 × BitVec 32
 | 0, p => p
 | n + 1, p => enc1 (rk k n) (encN k n p)
def decN (k : K4) : Nat → BitVec 32 × BitVec 32 → BitVec 32 × BitVec 32
 | 0, p => p
 | n + 1, p => decN k n (dec1 (rk k n) p)
theorem decN_encN (k : K4) (n : Nat) (p : BitVec 32 × BitVec 32) : decN k n (encN k n p) = p := by
 induction n with
 | zero => rfl
 | succ n ih => show decN k n (dec1 (rk k n) (enc1 (rk k n) (encN k n p))) = p; rw [dec_enc1, ih]
def Enc (k : K4) (b : BitVec 64) : BitVec 64 := join2 (encN k 27 (split2 b))
def Dec (k : K4) (b : BitVec 64) : BitVec 64 := join2 (decN k 27 (split2 b))
theorem dec_enc (k : K4) (b : BitVec 64) : Dec k (Enc k b) = b := by
 unfold Dec Enc; rw [split_join, decN_encN, join_split]
theorem enc_inj (k : K4) {a b : BitVec 64} : Enc k a = Enc k b ↔ a = b :=
 ⟨fun h => by rw [← dec_enc k a, ← dec_enc k b, h], fun h => by rw [h]⟩
end Go.Proofs.YtkaggddmhjifjaaGreatDoor
namespace Go.Proofs.YtkaggddmhjifjaaGreatDoor
open Go.RowKit
theorem below_drewN {B : Nat} {a w : World} (h : Below B a w) (n : Nat) : Below B a (w.drewN n) := ⟨h.os, h.tape, h.output, h.size, h.block⟩
theorem below_of_alloc {w w' : World} {o : Obj} (h : Below (w.alloc o).heap.size (w.alloc o) w') : Below w.heap.size w w' :=
 ((Below.refl _ _).alloc (Nat.le_refl _) o).trans (h.mono (by simp))
theorem below_then {w w1 w2 : World} (h : Below w.heap.size w w1) (k : Below w1.heap.size w1 w2) : Below w.heap.size w w2 := h.trans (k.mono h.size)
def Blk (w : World) (g : Nat) (t : TypeId) (cs : Array Value) : Prop := w.heap[g]? = some (.cells cs t (0, 0))
section
variable {w w' : World} {g : Nat} {t : TypeId} {cs : Array Value}
theorem Blk.lt (h : Blk w g t cs) : g < w.heap.size := by
 rcases Nat.lt_or_ge g w.heap.size with hlt | hge
 ·
  exact hlt
 ·
  unfold Blk at h; rw [Array.getElem?_eq_none hge] at h; cases h
theorem Blk.cell (h : Blk w g t cs) (i : Nat) : w.cell? ⟨g, i, none⟩ = cs[i]? := cell_of_row w g i cs t (0, 0) h
theorem Blk.frozen (h : Blk w g t cs) (i : Nat) : w.frozen? ⟨g, i, none⟩ = false := by
 unfold Blk at h
 simp [World.frozen?, h]
theorem Blk.new (w : World) (t : TypeId) (cs : Array Value) : Blk (w.alloc (.cells cs t)) w.heap.size t cs := heap_alloc_new w _
theorem Blk.drewN (h : Blk w g t cs) (n : Nat) : Blk (w.drewN n) g t cs := h
theorem Blk.drew (h : Blk w g t cs) : Blk w.drew g t cs := h
theorem Blk.alloc (h : Blk w g t cs) (o : Obj) : Blk (w.alloc o) g t cs := (Below.heap_alloc w o g h.lt).trans h
theorem Blk.set_ (h : Blk w g t cs) (i : Nat) (u : Value) : Blk (w.setCell ⟨g, i, none⟩ u) g t (cs.setIfInBounds i u) := by
 unfold Blk at h ⊢
 simp [World.setCell, Array.getElem?_modify, h]
theorem Blk.far (h : Blk w g t cs) {p : Addr} (hp : g ≠ p.block) (u : Value) : Blk (w.setCell p u) g t cs := (Below.heap_setCell w p u g hp).trans h
theorem Blk.below {B : Nat} (h : Blk w g t cs) (hb : Below B w w') (hg : g < B) : Blk w' g t cs := (hb.block g hg).trans h
theorem Blk.grown {row : Option Nat} (h : Blk w g t cs) (hb : w.grownBy w' row) (hg : some g ≠ row) : Blk w' g t cs := (hb.block g h.lt hg).trans h
end
theorem Blk.row {w : World} {g : Nat} {t : TypeId} {old : Array Value} (h : Blk w g t old) (cs : Array Value) : Blk (w.setRow g cs) g t cs := setRow_heap w g old cs t (0, 0) h
theorem Blk.rowFar {w : World} {g k : Nat} {t : TypeId} {cs : Array Value} (h : Blk w g t cs) (hk : g ≠ k) (new : Array Value) : Blk (w.setRow k new) g t cs := (setRow_other w k g new hk).trans h
theorem below_row {B : Nat} {a w : World} (h : Below B a w) {g : Nat} (hg : B ≤ g) (cs : Array Value) : Below B a (w.setRow g cs) :=
 ⟨h.os, h.tape, h.output, by simpa using h.size, fun i hi => (setRow_other w g i cs (by omega)).trans (h.block i hi)⟩
theorem bcell {W w1 : World} (hb : Below W.heap.size W w1) : (∀ b o, b < W.heap.size → w1.cell? ⟨b, o, none⟩ = W.cell? ⟨b, o, none⟩) ∧ (∀ b o, b < W.heap.size → w1.frozen? ⟨b, o, none⟩ = W.frozen? ⟨b, o, none⟩) :=
 ⟨fun b o h => hb.cell (p := ⟨b, o, none⟩) h, fun b o h => hb.frozen (p := ⟨b, o, none⟩) h⟩
end Go.Proofs.YtkaggddmhjifjaaGreatDoor
namespace Go.Proofs.YtkaggddmhjifjaaGreatDoor
open Go.RowKit
theorem block_of_add (a : Addr) (n : Nat) : (a.add n).block = a.block := by unfold Addr.add; split <;> rfl
theorem add_of_add (a : Addr) (i j : Nat) : (a.add i).add j = a.add (i + j) := by
 unfold Addr.add
 by_cases hi : i = 0 <;> by_cases hj : j = 0 <;> simp [hi, hj, Nat.add_assoc]
def Reads (w : World) (B size : Nat) (A : Option Addr) (n : Nat) (xs : List Value) : Prop :=
 xs.length = n * size ∧ (0 < n → ∃ ad, A = some ad ∧ ad.block < B ∧ ∀ j u, xs[j]? = some u → w.cell? (ad.add j) = some u)
section
variable {w w' : World} {B B' size n : Nat} {A : Option Addr} {xs : List Value}
theorem Reads.at_ {k : Nat} (h : Reads w B 1 A n xs) (hk : k < n) : ∃ ad u, A = some ad ∧ ad.block < B ∧ xs[k]? = some u ∧ w.cell? (ad.add k) = some u := by
 obtain ⟨ad, e, hb, hc⟩ := h.2 (by omega)
 have hl : k < xs.length := by have := h.1; omega
 exact ⟨ad, xs[k], e, hb, List.getElem?_eq_getElem hl, hc k _ (List.getElem?_eq_getElem hl)⟩
theorem Reads.keep (h : Reads w B size A n xs) (hk : ∀ p : Addr, p.block < B → w'.cell? p = w.cell? p) : Reads w' B size A n xs :=
 ⟨h.1, fun hn => by
  obtain ⟨ad, e, hb, hc⟩ := h.2 hn
  exact ⟨ad, e, hb, fun j u hu => (hk _ (by rw [block_of_add]; exact hb)).trans (hc j u hu)⟩⟩
theorem Reads.more (h : Reads w B size A n xs) (hB : B ≤ B') : Reads w B' size A n xs :=
 ⟨h.1, fun hn => by
  obtain ⟨ad, e, hb, hc⟩ := h.2 hn
  exact ⟨ad, e, by omega, hc⟩⟩
theorem Reads.below (h : Reads w B size A n xs) (hb : Below B w w') : Reads w' B size A n xs := h.keep fun _ hp => hb.cell hp
theorem Reads.drew (h : Reads w B size A n xs) : Reads w.drew B size A n xs := h
theorem Reads.drewN (h : Reads w B size A n xs) (k : Nat) : Reads (w.drewN k) B size A n xs := h
theorem Reads.alloc (h : Reads w B size A n xs) (hB : B ≤ w.heap.size) (o : Obj) : Reads (w.alloc o) B size A n xs := h.keep fun p hp => World.cell?_alloc_lt w o p (by omega)
theorem Reads.setCell (h : Reads w B size A n xs) {p : Addr} (hB : B ≤ p.block) (u : Value) : Reads (w.setCell p u) B size A n xs :=
 h.keep fun q hq => World.cell?_setCell_other w p q u (fun e => by subst e; omega)
theorem Reads.grown (h : Reads w B size A n xs) {row : Option Nat} (hg : w.grownBy w' row) (hB : B ≤ w.heap.size) (hr : ∀ g, row = some g → B ≤ g) : Reads w' B size A n xs :=
 h.keep fun p hp => World.cell?_of_block (hg.block p.block (by omega) (fun e => by have := hr _ e.symm; omega))
theorem Reads.cut (h : Reads w B size A n xs) {k cap : Nat} (hk : k ≤ n) (hc : n ≤ cap) :
  Reads w B size (if cap = k then A else A.map (·.add (k * size))) (n - k) (xs.drop (k * size)) := by
 refine ⟨by rw [List.length_drop, h.1, Nat.sub_mul], fun hn => ?_⟩
 obtain ⟨ad, rfl, hb, hcell⟩ := h.2 (by omega)
 rw [if_neg (by omega)]
 refine ⟨ad.add (k * size), rfl, by rw [block_of_add]; exact hb, fun j u hu => ?_⟩
 rw [add_of_add]
 exact hcell _ u (by rw [← hu, List.getElem?_drop])
end
section
variable {P : Program} (w : World)
theorem run_append_of_nil (base : Nat) (t ty e : TypeId) (i : TypeInfo) (size : Nat) (ht : P.underlying t = some (.slice e)) (hi : P.info? e = some i)
  (v : Value) (n : Nat) (xs : List Value) (hown : w.ownsRow base e size v n xs) (c : Nat) : (Builtin.append_ #[t, t] ty #[v, .slice none 0 c]).run P w = .ok v w := by
 rcases hown.2 with ⟨rfl, rfl⟩ | ⟨g, cap, cur, rfl, _, _, hnc, _⟩
 ·
  simp [Builtin.append_, run_underlying ht, sizeOf, typeInfo, hi, Builtin.lenOf, Builtin.firstCells]
 ·
  simp [Builtin.append_, run_underlying ht, sizeOf, typeInfo, hi, Builtin.lenOf, Builtin.firstCells, hnc, storeCells]
theorem run_append_any (base : Nat) (t ty e : TypeId) (i : TypeInfo) (z : Value) (size bytes : Nat) (ht : P.underlying t = some (.slice e)) (hi : P.info? e = some i) (hz : i.zero = some z)
  (hsize : i.size = size) (hby : i.bytes = bytes) (hzs : z.cells.size = size) (hsz : 0 < size)
  (v : Value) (n : Nat) (xs : List Value) (hown : w.ownsRow base e size v n xs)
  (B : Nat) (A : Option Addr) (m c : Nat) (news : List Value) (hr : Reads w B size A m news) (h1 : ∀ u ∈ news, u.oneCell' = true)
  (h63 : n + m ≤ maxLen) (hbytes : (n + m) * bytes ≤ 140737488355328) (hbase : base ≤ w.heap.size) :
  ∃ v' w', (Builtin.append_ #[t, t] ty #[v, .slice A m c]).run P w = .ok v' w' ∧ w'.ownsRow base e size v' (n + m) (xs ++ news) ∧ w.grownBy w' v.ownBlock ∧
   (v'.ownBlock = v.ownBlock ∨ v'.ownBlock = some w.heap.size) := by
 rcases A with _ | ad
 ·
  have hm : m = 0 := by
   rcases Nat.eq_zero_or_pos m with h0 | h0
   ·
    exact h0
   ·
    obtain ⟨ad, h, _⟩ := hr.2 h0
    cases h
  subst hm
  have hn : news = [] := List.eq_nil_of_length_eq_zero (by simpa using hr.1)
  subst hn
  exact ⟨v, w, run_append_of_nil w base t ty e i size ht hi v n xs hown c, by simpa using hown, World.grownBy.refl w _, .inl rfl⟩
 ·
  have hcells : ∀ j u, news[j]? = some u → w.cell? (ad.add j) = some u := by
   intro j u hu
   rcases Nat.eq_zero_or_pos m with h0 | h0
   ·
    subst h0
    have hn : news = [] := List.eq_nil_of_length_eq_zero (by simpa using hr.1)
    subst hn
    simp at hu
   ·
    obtain ⟨ad', h, _, hc⟩ := hr.2 h0
    injection h with h
    subst h
    exact hc j u hu
  obtain ⟨v', w', hrun, h2, h3, _, h5⟩ := run_append_own_at (P := P) w base t ty e i z size bytes ht hi hz hsize hby hzs hsz v n xs hown ad m c news hr.1 hcells h1 h63 hbytes hbase
  exact ⟨v', w', hrun, h2, h3, h5⟩
theorem wp_append_any {o : Oper} {a : Act} {K : Act → World → Prop} {Q : Exit → Act → World → Prop} (s x : Operand) (t : TypeId)
  (ho : o.op = .call { callee := .builtin .append, args := #[s, x], argTypes := #[t, t] })
  (base : Nat) (e : TypeId) (i : TypeInfo) (z : Value) (size bytes : Nat) (ht : P.underlying t = some (.slice e)) (hi : P.info? e = some i) (hz : i.zero = some z)
  (hsize : i.size = size) (hby : i.bytes = bytes) (hzs : z.cells.size = size) (hsz : 0 < size)
  (v : Value) (n : Nat) (xs : List Value) (hs : a.eval s = v) (hown : w.ownsRow base e size v n xs)
  (B : Nat) (A : Option Addr) (m c : Nat) (news : List Value) (hx : a.eval x = .slice A m c) (hr : Reads w B size A m news) (h1 : ∀ u ∈ news, u.oneCell' = true)
  (h63 : n + m ≤ maxLen) (hbytes : (n + m) * bytes ≤ 140737488355328) (hbase : base ≤ w.heap.size)
  (h : ∀ v' w', w'.ownsRow base e size v' (n + m) (xs ++ news) → w.grownBy w' v.ownBlock → (v'.ownBlock = v.ownBlock ∨ v'.ownBlock = some w.heap.size) → K (a.put o.dst v') w') : o.wp P a w K Q := by
 obtain ⟨v', w', hrun, h2, h3, h4⟩ := run_append_any (P := P) w base t o.type e i z size bytes ht hi hz hsize hby hzs hsz v n xs hown B A m c news hr h1 h63 hbytes hbase
 unfold Oper.wp execOp
 simp only [ho, resolve, invoke, builtin, Sem.run_bind, Sem.run_pure, Result.andThen_ok, List.map_toArray, List.map_cons, List.map_nil, hs, hx, hrun]
 exact h v' w' h2 h3 h4
end
theorem Reads.block {w : World} {g : Nat} {t : TypeId} {cs : Array Value} {size m : Nat} (h : Blk w g t cs) (hs : cs.size = m * size) : Reads w w.heap.size size (some ⟨g, 0, none⟩) m cs.toList := by
 refine ⟨by simpa using hs, fun _ => ⟨⟨g, 0, none⟩, rfl, h.lt, fun j u hu => ?_⟩⟩
 have hadd : (⟨g, 0, none⟩ : Addr).add j = ⟨g, j, none⟩ := by unfold Addr.add; split <;> simp_all
 rw [hadd, h.cell]
 simpa using hu
theorem own_below {w W : World} {base : Nat} {e : TypeId} {size n : Nat} {v : Value} {xs : List Value} (h : w.ownsRow base e size v n xs) (hb : Below w.heap.size w W) : W.ownsRow base e size v n xs :=
 h.kept (row := none) ⟨hb.os, hb.tape, hb.output, hb.size, fun k hk _ => hb.block k hk⟩ (by cases v.ownBlock <;> simp)
end Go.Proofs.YtkaggddmhjifjaaGreatDoor
namespace Go.Proofs.YtkaggddmhjifjaaGreatDoor
open Go.RowKit
structure Kin (w : World) where
 W : World
 below : Below w.heap.size w W
instance (w : World) : Nonempty (Kin w) := ⟨⟨w, Below.refl _ _⟩⟩
section
variable {P : Program} {w : World}
@[go_sem] theorem kin_cell (s : Kin w) (b o : Nat) (h : b < w.heap.size) : s.W.cell? ⟨b, o, none⟩ = w.cell? ⟨b, o, none⟩ := s.below.cell (p := ⟨b, o, none⟩) h
@[go_sem] theorem kin_frozen (s : Kin w) (b o : Nat) (h : b < w.heap.size) : s.W.frozen? ⟨b, o, none⟩ = w.frozen? ⟨b, o, none⟩ := s.below.frozen (p := ⟨b, o, none⟩) h
end
end Go.Proofs.YtkaggddmhjifjaaGreatDoor
namespace Go.Proofs.YtkaggddmhjifjaaGreatDoor
def nth (bs : List UInt8) (i : Nat) : UInt8 := bs.getD i 0
def w8 (bs : List UInt8) (at' : Nat) : Nat → BitVec 64
 | 0 => 0
 | i + 1 => if at' + i < bs.length then w8 bs at' i <<< 8 ||| BitVec.ofNat 64 (nth bs (at' + i)).toNat else w8 bs at' i <<< 8
theorem w8_in (bs : List UInt8) (p i : Nat) (h : p + i < bs.length) : w8 bs p (i + 1) = w8 bs p i <<< 8 ||| BitVec.ofNat 64 (nth bs (p + i)).toNat := by
 rw [w8, if_pos h]
theorem w8_out (bs : List UInt8) (p i : Nat) (h : ¬ p + i < bs.length) : w8 bs p (i + 1) = w8 bs p i <<< 8 := by rw [w8, if_neg h]
theorem shl8_add (x : BitVec 64) (b : Nat) (hb : b < 256) : x <<< 8 + BitVec.ofNat 64 b = x <<< 8 ||| BitVec.ofNat 64 b := by
 apply BitVec.add_eq_or_of_and_eq_zero
 apply BitVec.eq_of_getLsbD_eq
 intro i hi
 simp only [BitVec.getLsbD_and, BitVec.getLsbD_shiftLeft, BitVec.getLsbD_ofNat]
 by_cases h : i < 8
 ·
  simp [h]
 ·
  have : b.testBit i = false := Nat.testBit_lt_two_pow (Nat.lt_of_lt_of_le hb (by
   calc 256 = 2 ^ 8 := rfl
    _ ≤ 2 ^ i := Nat.pow_le_pow_right (by decide) (by omega)))
  simp [this]
def nblk (bs : List UInt8) : Nat := (bs.length + 7) / 8
def blkAt (bs : List UInt8) (j : Nat) : BitVec 64 := w8 bs (8 * j) 8
def blocksTo (bs : List UInt8) (n : Nat) : List (BitVec 64) := BitVec.ofNat 64 bs.length :: (List.range n).map (blkAt bs)
def macBlocks (bs : List UInt8) : List (BitVec 64) := blocksTo bs (nblk bs)
def chain (k : K4) (m : BitVec 64) (l : List (BitVec 64)) : BitVec 64 := l.foldl (fun m x => Enc k (m ^^^ x)) m
theorem chain_append (k : K4) (m : BitVec 64) (l l' : List (BitVec 64)) : chain k m (l ++ l') = chain k (chain k m l) l' := by simp [chain]
theorem xor_inj {n : Nat} {a b c : BitVec n} : a ^^^ c = b ^^^ c ↔ a = b :=
 ⟨fun h => by
  have : (a ^^^ c) ^^^ c = (b ^^^ c) ^^^ c := by rw [h]
  simpa [BitVec.xor_assoc] using this, fun h => by rw [h]⟩
theorem xor_inj' {n : Nat} {a b c : BitVec n} : c ^^^ a = c ^^^ b ↔ a = b := by rw [BitVec.xor_comm c a, BitVec.xor_comm c b]; exact xor_inj
theorem chain_inj (k : K4) (l : List (BitVec 64)) : ∀ m m' : BitVec 64, chain k m l = chain k m' l ↔ m = m' := by
 induction l with
 | nil => intro m m'; rfl
 | cons x l ih =>
  intro m m'
  show chain k (Enc k (m ^^^ x)) l = chain k (Enc k (m' ^^^ x)) l ↔ _
  rw [ih, enc_inj, xor_inj]
def Mac (k : K4) (bs : List UInt8) : BitVec 64 := chain k 0 (macBlocks bs)
theorem p7 : (256 : Nat) ^ 7 = 72057594037927936 := by simp
theorem small8 (x : Nat) (h : x < 72057594037927936) : x * 256 % 18446744073709551616 = x * 256 := Nat.mod_eq_of_lt (by omega)
theorem shl8_nat (z : BitVec 64) : (z <<< 8).toNat = z.toNat * 256 % 18446744073709551616 := by rw [BitVec.toNat_shiftLeft, Nat.shiftLeft_eq]
theorem shr8_nat (z : BitVec 64) : (z >>> 8).toNat = z.toNat / 256 := by rw [BitVec.toNat_ushiftRight, Nat.shiftRight_eq_div_pow]
theorem small_of_back (z : BitVec 64) (hz : z <<< 8 >>> 8 = z) : z.toNat < 72057594037927936 := by
 have := congrArg BitVec.toNat hz
 rw [shr8_nat, shl8_nat] at this
 omega
theorem add_nat (x : BitVec 64) (a : Nat) (hx : x.toNat < 72057594037927936) (ha : a < 256) : (x <<< 8 + BitVec.ofNat 64 a).toNat = x.toNat * 256 + a := by
 rw [BitVec.toNat_add, shl8_nat, small8 _ hx, BitVec.toNat_ofNat]
 omega
theorem w8_congr (a b : List UInt8) (hl : a.length = b.length) (p : Nat) : ∀ n, (∀ i, i < n → p + i < a.length → nth a (p + i) = nth b (p + i)) → w8 a p n = w8 b p n
 | 0, _ => rfl
 | n + 1, h => by
  have ih := w8_congr a b hl p n (fun i hi => h i (by omega))
  by_cases hp : p + n < a.length
  ·
   rw [w8_in a p n hp, w8_in b p n (by omega), ih, h n (by omega) hp]
  ·
   rw [w8_out a p n hp, w8_out b p n (by omega), ih]
theorem or_low (x y : BitVec 64) (a b : Nat) (ha : a < 256) (hb : b < 256) (hx : x <<< 8 >>> 8 = x) (hy : y <<< 8 >>> 8 = y)
  (h : x <<< 8 ||| BitVec.ofNat 64 a = y <<< 8 ||| BitVec.ofNat 64 b) : x = y ∧ a = b := by
 rw [← shl8_add x a ha, ← shl8_add y b hb] at h
 have h1 := congrArg BitVec.toNat h
 rw [add_nat x a (small_of_back x hx) ha, add_nat y b (small_of_back y hy) hb] at h1
 exact ⟨BitVec.eq_of_toNat_eq (by omega), by omega⟩
theorem w8_small (bs : List UInt8) (p : Nat) : ∀ n, n ≤ 8 → (w8 bs p n).toNat < 256 ^ n
 | 0, _ => by simp [w8]
 | n + 1, h => by
  have ih := w8_small bs p n (by omega)
  have hn7 : 256 ^ n ≤ 72057594037927936 := by rw [← p7]; exact Nat.pow_le_pow_right (by decide) (by omega)
  have hlt : (w8 bs p n).toNat < 72057594037927936 := by omega
  by_cases hq : p + n < bs.length
  ·
   have hb : (nth bs (p + n)).toNat < 256 := (nth bs (p + n)).toNat_lt
   rw [w8_in bs p n hq, ← shl8_add _ _ hb, add_nat _ _ hlt hb, Nat.pow_succ]
   generalize 256 ^ n = q at *
   omega
  ·
   rw [w8_out bs p n hq, shl8_nat, small8 _ hlt, Nat.pow_succ]
   omega
theorem w8_back (bs : List UInt8) (p n : Nat) (h : n < 8) : w8 bs p n <<< 8 >>> 8 = w8 bs p n := by
 apply BitVec.eq_of_toNat_eq
 have hs := w8_small bs p n (by omega)
 have hn7 : 256 ^ n ≤ 72057594037927936 := by rw [← p7]; exact Nat.pow_le_pow_right (by decide) (by omega)
 rw [shr8_nat, shl8_nat, small8 _ (by omega)]
 omega
theorem w8_inj (a b : List UInt8) (hl : a.length = b.length) (p : Nat) : ∀ n, n ≤ 8 → w8 a p n = w8 b p n → ∀ i, i < n → p + i < a.length → nth a (p + i) = nth b (p + i)
 | 0, _, _ => fun i hi => absurd hi (by omega)
 | n + 1, hn, h => by
  have hba := w8_back a p n (by omega)
  have hbb := w8_back b p n (by omega)
  intro i hi hp
  by_cases hq : p + n < a.length
  ·
   rw [w8_in a p n hq, w8_in b p n (by omega)] at h
   obtain ⟨h1, h2⟩ := or_low _ _ _ _ (nth a (p + n)).toNat_lt (nth b (p + n)).toNat_lt hba hbb h
   by_cases he : i = n
   ·
    subst he; exact UInt8.toNat_inj.1 h2
   ·
    exact w8_inj a b hl p n (by omega) h1 i (by omega) hp
  ·
   rw [w8_out a p n hq, w8_out b p n (by omega)] at h
   have h1 : w8 a p n = w8 b p n := by rw [← hba, ← hbb, h]
   exact w8_inj a b hl p n (by omega) h1 i (by omega) hp
theorem mac_turned (k : K4) (a b : List UInt8) (hl : a.length = b.length) (j : Nat) (h : ∀ i, i / 8 ≠ j → nth a i = nth b i) : Mac k a = Mac k b ↔ a = b := by
 refine ⟨fun hm => ?_, fun h => by rw [h]⟩
 have hn : nblk a = nblk b := by unfold nblk; rw [hl]
 have hsame : ∀ i, i ≠ j → blkAt a i = blkAt b i := fun i hi => w8_congr a b hl _ 8 (fun t ht _ => h _ (by omega))
 by_cases hj : j < nblk a
 ·
  obtain ⟨r, hr⟩ : ∃ r, nblk a = j + 1 + r := ⟨nblk a - (j + 1), by omega⟩
  have hsplit : ∀ c : List UInt8, macBlocks c = blocksTo c (nblk c) := fun _ => rfl
  have cut : ∀ c : List UInt8, nblk c = j + 1 + r → macBlocks c = blocksTo c j ++ ([blkAt c j] ++ (List.range r).map fun i => blkAt c (j + 1 + i)) := by
   intro c hc
   unfold macBlocks blocksTo
   rw [hc, List.range_add, List.map_append, List.range_succ, List.map_append, List.map_map]
   simp [Function.comp_def]
  have e1 : blocksTo a j = blocksTo b j := by
   unfold blocksTo
   rw [hl]
   congr 1
   apply List.map_congr_left
   intro i hi
   exact hsame i (by have := List.mem_range.1 hi; omega)
  have e2 : ((List.range r).map fun i => blkAt a (j + 1 + i)) = (List.range r).map fun i => blkAt b (j + 1 + i) := by
   apply List.map_congr_left
   intro i _
   exact hsame _ (by omega)
  unfold Mac at hm
  rw [cut a hr, cut b (hn ▸ hr), e1, e2, chain_append, chain_append, chain_append, chain_append, chain_inj] at hm
  have hb : blkAt a j = blkAt b j := by
   have : Enc k (chain k 0 (blocksTo b j) ^^^ blkAt a j) = Enc k (chain k 0 (blocksTo b j) ^^^ blkAt b j) := hm
   rw [enc_inj, xor_inj'] at this
   exact this
  apply List.ext_getElem hl
  intro i h1 h2
  have hg : nth a i = nth b i := by
   by_cases hij : i / 8 = j
   ·
    have hi : 8 * j + i % 8 = i := by omega
    have := w8_inj a b hl (8 * j) 8 (by omega) hb (i % 8) (by omega) (by omega)
    rwa [hi] at this
   ·
    exact h i hij
  simpa [nth, List.getD_eq_getElem?_getD, h1, h2] using hg
 ·
  apply List.ext_getElem hl
  intro i h1 h2
  have hg : nth a i = nth b i := h i (by unfold nblk at hj; omega)
  simpa [nth, List.getD_eq_getElem?_getD, h1, h2] using hg
end Go.Proofs.YtkaggddmhjifjaaGreatDoor
namespace Go.Proofs.YtkaggddmhjifjaaGreatDoor
open Go.RowKit
def Row (w : World) (A : Option Addr) (xs : List Value) : Prop :=
 0 < xs.length → ∃ b off, A = some ⟨b, off, none⟩ ∧ b < w.heap.size ∧ ∀ j u, xs[j]? = some u → w.cell? ⟨b, off + j, none⟩ = some u
section
variable {w w' : World} {A : Option Addr} {xs : List Value}
theorem Row.nil (w : World) (A : Option Addr) : Row w A [] := fun h => absurd h (by simp)
theorem Row.keep (h : Row w A xs) (hz : w.heap.size ≤ w'.heap.size) (hk : ∀ b o, b < w.heap.size → w'.cell? ⟨b, o, none⟩ = w.cell? ⟨b, o, none⟩) : Row w' A xs := fun hx => by
 obtain ⟨b, off, e, hb, hc⟩ := h hx
 exact ⟨b, off, e, by omega, fun j u hu => (hk b _ hb).trans (hc j u hu)⟩
theorem Row.below (h : Row w A xs) (hb : Below w.heap.size w w') : Row w' A xs := h.keep hb.size fun b o hlt => hb.cell (p := ⟨b, o, none⟩) hlt
theorem Row.alloc (h : Row w A xs) (o : Obj) : Row (w.alloc o) A xs := h.below ((Below.refl _ _).alloc (Nat.le_refl _) o)
theorem Row.drewN (h : Row w A xs) (n : Nat) : Row (w.drewN n) A xs := h
theorem Row.drew (h : Row w A xs) : Row w.drew A xs := h
theorem Row.block {g : Nat} {t : TypeId} {cs : Array Value} (h : Blk w g t cs) : Row w (some ⟨g, 0, none⟩) cs.toList := fun _ =>
 ⟨g, 0, rfl, h.lt, fun j u hu => by rw [Nat.zero_add, h.cell]; simpa using hu⟩
theorem Row.own {base : Nat} {e : TypeId} {g n c : Nat} (h : w.ownsRow base e 1 (.slice (some ⟨g, 0, none⟩) n c) n xs) : Row w (some ⟨g, 0, none⟩) xs := fun _ =>
 ⟨g, 0, rfl, (h.lt g rfl).2, fun j u hu => by
  have hj : j < n * 1 := by
   have h1 := h.1
   have h2 : j < xs.length := by
    rcases Nat.lt_or_ge j xs.length with h | h
    ·
     exact h
    ·
     rw [List.getElem?_eq_none h] at hu; cases hu
   omega
  rw [Nat.zero_add, h.cellAt j hj]; exact hu⟩
theorem Row.reads {n : Nat} (h : Row w A xs) (hn : xs.length = n) : Reads w w.heap.size 1 A n xs := ⟨by omega, fun h0 => by
 obtain ⟨b, off, e, hb, hc⟩ := h (by omega)
 refine ⟨⟨b, off, none⟩, e, hb, fun j u hu => ?_⟩
 rw [show (⟨b, off, none⟩ : Addr).add j = ⟨b, off + j, none⟩ by unfold Addr.add; split <;> simp_all]
 exact hc j u hu⟩
theorem Row.at_ {k : Nat} {u : Value} (h : Row w A xs) (hk : xs[k]? = some u) : ∃ b off, A = some ⟨b, off, none⟩ ∧ b < w.heap.size ∧ w.cell? ⟨b, off + k, none⟩ = some u := by
 have hl : 0 < xs.length := by
  rcases Nat.eq_zero_or_pos xs.length with h0 | h0
  ·
   rw [List.eq_nil_of_length_eq_zero h0] at hk; simp at hk
  ·
   exact h0
 obtain ⟨b, off, e, hb, hc⟩ := h hl
 exact ⟨b, off, e, hb, hc k u hk⟩
end
def cellsOf (bs : List UInt8) : List Value := bs.map q8
theorem cellsOf_length (bs : List UInt8) : (cellsOf bs).length = bs.length := by simp [cellsOf]
theorem cellsOf_at (bs : List UInt8) (k : Nat) (h : k < bs.length) : (cellsOf bs)[k]? = some (q8 (nth bs k)) := by
 simp [cellsOf, nth, h, List.getD_eq_getElem?_getD]
theorem cellsOf_append (a b : List UInt8) : cellsOf (a ++ b) = cellsOf a ++ cellsOf b := by simp [cellsOf]
structure Bytes (w : World) (A : Option Addr) (c : Nat) (bs : List UInt8) : Prop where
 row : Row w A (cellsOf bs)
 cap : bs.length ≤ c
 max : c ≤ maxLen
section
variable {w w' : World} {A : Option Addr} {c : Nat} {bs : List UInt8}
theorem Bytes.below (h : Bytes w A c bs) (hb : Below w.heap.size w w') : Bytes w' A c bs := ⟨h.row.below hb, h.cap, h.max⟩
theorem Bytes.alloc (h : Bytes w A c bs) (o : Obj) : Bytes (w.alloc o) A c bs := ⟨h.row.alloc o, h.cap, h.max⟩
theorem Bytes.drewN (h : Bytes w A c bs) (n : Nat) : Bytes (w.drewN n) A c bs := ⟨h.row, h.cap, h.max⟩
theorem Bytes.nil (w : World) : Bytes w none 0 [] := ⟨Row.nil _ _, Nat.le_refl _, Nat.zero_le _⟩
theorem Bytes.own {base g n : Nat} {e : TypeId} (h : w.ownsRow base e 1 (.slice (some ⟨g, 0, none⟩) n c) n (cellsOf bs)) : Bytes w (some ⟨g, 0, none⟩) c bs := by
 refine ⟨Row.own h, ?_, ?_⟩
 ·
  rcases h.2 with ⟨h', _⟩ | ⟨g', cap', cur, h', _, _, hnc, _⟩
  ·
   simp at h'
  ·
   simp only [Value.slice.injEq] at h'
   have := h.1
   simp only [cellsOf, List.length_map] at this
   omega
 ·
  rcases h.2 with ⟨h', _⟩ | ⟨g', cap', cur, h', _, _, _, hcm, _⟩
  ·
   simp at h'
  ·
   simp only [Value.slice.injEq] at h'
   omega
theorem Bytes.at_ {k : Nat} (h : Bytes w A c bs) (hk : k < bs.length) : ∃ b off, A = some ⟨b, off, none⟩ ∧ b < w.heap.size ∧ w.cell? ⟨b, off + k, none⟩ = some (q8 (nth bs k)) :=
 h.row.at_ (cellsOf_at bs k hk)
end
def IsBytes (bs : List UInt8) : Value → World → Prop := fun v w => ∃ A c, v = .slice A bs.length c ∧ Bytes w A c bs
theorem IsBytes.grow {bs : List UInt8} {v : Value} {w w' : World} (h : IsBytes bs v w) (hb : Below w.heap.size w w') : IsBytes bs v w' := by
 obtain ⟨A, c, e, hB⟩ := h
 exact ⟨A, c, e, hB.below hb⟩
end Go.Proofs.YtkaggddmhjifjaaGreatDoor
namespace Go.Proofs.YtkaggddmhjifjaaGreatDoor
open Go.RowKit
def upd (u : Nat → Value) (i : Nat) (v : Value) : Nat → Value := fun j => if j = i then v else u j
def fill (u : Nat → Value) : List (Option Tmp) → Nat → Act → Act
 | [], _, a => a
 | d :: ds, i, a => fill u ds (i + 1) (a.put d (u i))
theorem fill_put (u : Nat → Value) (d : Option Tmp) (v : Value) : ∀ (ds : List (Option Tmp)) (i : Nat) (a : Act), (∀ x, d = some x → some x ∉ ds) → (fill u ds i a).put d v = fill u ds i (a.put d v)
 | [], _, _, _ => rfl
 | e :: ds, i, a, h => by
  show (fill u ds (i + 1) (a.put e (u i))).put d v = fill u ds (i + 1) ((a.put d v).put e (u i))
  rw [fill_put u d v ds (i + 1) _ (fun x hx hm => h x hx (List.mem_cons_of_mem _ hm)), Act.put_comm a v (u i) (x := d) (y := e) (fun x hx he => h x hx (by rw [he]; exact List.mem_cons_self))]
theorem put_put (a : Act) (d : Option Tmp) (v v' : Value) : (a.put d v).put d v' = a.put d v' := by
 cases d with
 | none => rfl
 | some x => simp [Act.put]
theorem fill_congr (u u' : Nat → Value) : ∀ (ds : List (Option Tmp)) (i : Nat) (a : Act), (∀ j, i ≤ j → u j = u' j) → fill u ds i a = fill u' ds i a
 | [], _, _, _ => rfl
 | d :: ds, i, a, h => by
  show fill u ds (i + 1) (a.put d (u i)) = fill u' ds (i + 1) (a.put d (u' i))
  rw [h i (Nat.le_refl _), fill_congr u u' ds (i + 1) _ (fun j hj => h j (by omega))]
def apartB : List (Option Tmp) → Bool
 | [] => true
 | none :: ds => apartB ds
 | some d :: ds => !ds.contains (some d) && apartB ds
theorem fill_upd (u : Nat → Value) (v : Value) : ∀ (ds : List (Option Tmp)) (k i : Nat) (a : Act) (d : Option Tmp), apartB ds = true → ds[i]? = some d → (fill u ds k a).put d v = fill (upd u (k + i) v) ds k a
 | [], _, _, _, _, _, h => by simp at h
 | e :: ds, k, 0, a, d, ha, h => by
  simp only [List.getElem?_cons_zero, Option.some.injEq] at h
  subst h
  have hn : ∀ x, e = some x → some x ∉ ds := by
   intro x hx
   subst hx
   simp only [apartB, Bool.and_eq_true, Bool.not_eq_true', List.contains_eq_mem] at ha
   simpa using ha.1
  show (fill u ds (k + 1) (a.put e (u k))).put e v = fill (upd u (k + 0) v) ds (k + 1) (a.put e (upd u (k + 0) v k))
  rw [fill_put u e v ds (k + 1) _ hn, put_put]
  have : upd u (k + 0) v k = v := by simp [upd]
  rw [this]
  exact fill_congr _ _ _ _ _ (fun j hj => by simp [upd]; omega)
 | e :: ds, k, i + 1, a, d, ha, h => by
  simp only [List.getElem?_cons_succ] at h
  have ha' : apartB ds = true := by
   cases e with
   | none => exact ha
   | some x => simp only [apartB, Bool.and_eq_true] at ha; exact ha.2
  show (fill u ds (k + 1) (a.put e (u k))).put d v = fill (upd u (k + (i + 1)) v) ds (k + 1) (a.put e (upd u (k + (i + 1)) v k))
  rw [fill_upd u v ds (k + 1) i _ d ha' h]
  have e1 : upd u (k + (i + 1)) v k = u k := by simp [upd]
  have e2 : k + 1 + i = k + (i + 1) := by omega
  rw [e1, e2]
theorem fill_self (a : Act) : ∀ (ds : List (Option Tmp)) (k : Nat) (u : Nat → Value), (∀ i d x, ds[i]? = some (some d) → a.tmps[d]? = some x → u (k + i) = x) → fill u ds k a = a
 | [], _, _, _ => rfl
 | d :: ds, k, u, h => by
  have hp : a.put d (u k) = a := by
   cases d with
   | none => rfl
   | some x =>
    cases hx : a.tmps[x]? with
    | none =>
     unfold Act.put
     simp only
     rw [Array.setIfInBounds_eq_of_size_le (by simpa using hx)]
    | some y =>
     have := h 0 x y rfl hx
     simp only [Nat.add_zero] at this
     rw [this]
     unfold Act.put
     simp only
     congr 1
     apply Array.ext (by simp)
     intro j h1 h2
     by_cases hj : x = j
     ·
      subst hj
      have := (Array.getElem?_eq_some_iff.1 hx).2
      rw [Array.getElem_setIfInBounds_self, this]
     ·
      rw [Array.getElem_setIfInBounds_ne _ hj]
  show fill u ds (k + 1) (a.put d (u k)) = a
  rw [hp]
  exact fill_self a ds (k + 1) u (fun i e x hi hx => by
   have := h (i + 1) e x (by simpa using hi) hx
   rwa [show k + (i + 1) = k + 1 + i by omega] at this)
def Grows (Φ : Value → World → Prop) : Prop := ∀ v w w', Φ v w → Below w.heap.size w w' → Φ v w'
def Is (c : Value) : Value → World → Prop := fun v _ => v = c
theorem grows_is (c : Value) : Grows (Is c) := fun _ _ _ h _ => h
def Waited (Φs : List (Value → World → Prop)) (es : List Edge) (u : Nat → Value) (w : World) : Prop := ∀ e ∈ es, Region.binds .any e = true → ∀ Φ : Value → World → Prop, Φs[e.on]? = some Φ → Φ (u e.on) w
def Looked (P : Program) (ops : Array Oper) (F : (Nat → Value) → Act) (o : Oper) (Φ : Value → World → Prop) (Q : Exit → Act → World → Prop) (u : Nat → Value) (w : World) : Prop :=
 if Region.wanted o (yielded ops (F u).tmps) = true then ∀ K : Act → World → Prop, (∀ v w', Below w.heap.size w w' → Φ v w' → K ((F u).put o.dst v) w') → o.wp P (F u) w K Q
 else Φ undef w
def Lex (P : Program) (ops : Array Oper) (F : (Nat → Value) → Act) (w0 : World) (Q : Exit → Act → World → Prop) : List Oper → Nat → List (Value → World → Prop) → Prop
 | [], _, Φs => ∀ u w, Below w0.heap.size w0 w → (∀ (i : Nat) (Φ : Value → World → Prop), Φs[i]? = some Φ → Φ (u i) w) → Q .normal (F u) w
 | o :: rest, i, Φs => ∃ Φ, Grows Φ ∧ (∀ u w, Below w0.heap.size w0 w → Waited Φs o.after.toList u w → Looked P ops F o Φ Q u w) ∧ Lex P ops F w0 Q rest (i + 1) (Φs ++ [Φ])
def backB (ops : Array Oper) : Bool := (List.range ops.size).all fun i => ((ops[i]?).map fun o => o.after.all fun e => decide (e.on < i)).getD false
section
variable {P : Program} {ops : Array Oper} {F : (Nat → Value) → Act} {w0 : World} {Q : Exit → Act → World → Prop}
theorem lex_words : ∀ (l : List Oper) (i : Nat) (Φs : List (Value → World → Prop)), Φs.length = i → Lex P ops F w0 Q l i Φs → ∃ Ψs : List (Value → World → Prop), Ψs.length = i + l.length ∧ (∀ j, j < i → Ψs[j]? = Φs[j]?) ∧
  (∀ j o, l[j]? = some o → ∃ Φ, Ψs[i + j]? = some Φ ∧ Grows Φ ∧ ∀ u w, Below w0.heap.size w0 w → Waited (Ψs.take (i + j)) o.after.toList u w → Looked P ops F o Φ Q u w) ∧
  (∀ u w, Below w0.heap.size w0 w → (∀ (j : Nat) (Φ : Value → World → Prop), Ψs[j]? = some Φ → Φ (u j) w) → Q .normal (F u) w)
 | [], i, Φs, hl, h => ⟨Φs, by simpa using hl, fun _ _ => rfl, fun j o ho => by simp at ho, h⟩
 | o :: rest, i, Φs, hl, h => by
  obtain ⟨Φ, hg, hs, hr⟩ := h
  obtain ⟨Ψs, h1, h2, h3, h4⟩ := lex_words rest (i + 1) (Φs ++ [Φ]) (by simp [hl]) hr
  have hat : Ψs[i]? = some Φ := by rw [h2 i (by omega)]; simp [hl]
  have htake : Ψs.take i = Φs := by
   apply List.ext_getElem?
   intro j
   by_cases hj : j < i
   ·
    rw [List.getElem?_take_of_lt hj, h2 j (by omega), List.getElem?_append_left (by omega)]
   ·
    rw [List.getElem?_eq_none (by simp; omega), List.getElem?_eq_none (by omega)]
  refine ⟨Ψs, by simp at h1 ⊢; omega, fun j hj => by rw [h2 j (by omega), List.getElem?_append_left (by omega)], ?_, h4⟩
  intro j p hp
  match j, hp with
  | 0, hp =>
   simp only [List.getElem?_cons_zero, Option.some.injEq] at hp
   subst hp
   refine ⟨Φ, by simpa using hat, hg, fun u w hb hw => ?_⟩
   have hw' : Waited Φs o.after.toList u w := by rw [Nat.add_zero, htake] at hw; exact hw
   exact hs u w hb hw'
  | j + 1, hp =>
   simp only [List.getElem?_cons_succ] at hp
   obtain ⟨Φ', a1, a2, a3⟩ := h3 j p hp
   rw [show i + 1 + j = i + (j + 1) by omega] at a1 a3
   exact ⟨Φ', a1, a2, a3⟩
theorem backB_spec (hB : backB ops = true) {i : Nat} {o : Oper} (ho : ops[i]? = some o) : ∀ e ∈ o.after, e.on < i := by
 intro e he
 unfold backB at hB
 rw [List.all_eq_true] at hB
 have hlt : i < ops.size := (Array.getElem?_eq_some_iff.1 ho).1
 have := hB i (by simpa using hlt)
 rw [ho] at this
 simp only [Option.map_some, Option.getD_some, Array.all_eq_true_iff_forall_mem, decide_eq_true_eq] at this
 exact this e he
theorem all_listed (hB : backB ops = true) (listed : Array Bool) (hsz : listed.size = ops.size) (h : Region.ready .any ops listed = []) : ∀ n i, i < n → i < ops.size → listed.getD i false = true
 | 0, _, h, _ => absurd h (by omega)
 | n + 1, i, hi, hlt => by
  have ih := all_listed hB listed hsz h n
  by_cases hin : i < n
  ·
   exact ih i hin hlt
  ·
   obtain rfl : i = n := by omega
   cases hd : listed.getD i false with
   | true => rfl
   | false =>
    have hm : i ∈ Region.ready .any ops listed := by
     rw [mem_ready]
     refine ⟨?_, ops[i], Array.getElem?_eq_getElem hlt, fun e he _ => ?_⟩
     ·
      have h2 : i < listed.size := by omega
      simpa [h2] using hd
     ·
      have := backB_spec hB (Array.getElem?_eq_getElem hlt) e he
      exact ih e.on this (by omega)
    rw [h] at hm
    cases hm
theorem wpAny_lex (hB : backB ops = true) (Ψs : List (Value → World → Prop)) (hlen : Ψs.length = ops.size)
  (hF : ∀ i o u v, ops[i]? = some o → (F u).put o.dst v = F (upd u i v))
  (hs : ∀ i o, ops[i]? = some o → ∃ Φ, Ψs[i]? = some Φ ∧ Grows Φ ∧ ∀ u w, Below w0.heap.size w0 w → Waited (Ψs.take i) o.after.toList u w → Looked P ops F o Φ Q u w)
  (hend : ∀ u w, Below w0.heap.size w0 w → (∀ (j : Nat) (Φ : Value → World → Prop), Ψs[j]? = some Φ → Φ (u j) w) → Q .normal (F u) w) :
  ∀ (fuel : Nat) (listed : Array Bool) (u : Nat → Value) (w : World), listed.size = ops.size → ((List.range ops.size).filter fun i => !listed.getD i false).length ≤ fuel → Below w0.heap.size w0 w →
   (∀ (j : Nat) (Φ : Value → World → Prop), listed.getD j false = true → Ψs[j]? = some Φ → Φ (u j) w) → wpAny P .any ops Q fuel listed (F u) w := by
 have fin : ∀ (listed : Array Bool) (u : Nat → Value) (w : World), listed.size = ops.size → Below w0.heap.size w0 w → (∀ (j : Nat) (Φ : Value → World → Prop), listed.getD j false = true → Ψs[j]? = some Φ → Φ (u j) w) → Region.ready .any ops listed = [] → Q .normal (F u) w := by
  intro listed u w hsz hb hv hr
  refine hend u w hb (fun j Φ hj => hv j Φ ?_ hj)
  have hlt : j < Ψs.length := by
   rcases Nat.lt_or_ge j Ψs.length with h | h
   ·
    exact h
   ·
    rw [List.getElem?_eq_none h] at hj; cases hj
  exact all_listed hB listed hsz hr ops.size j (by omega) (by omega)
 intro fuel
 induction fuel with
 | zero =>
  intro listed u w hsz hf hb hv
  have hr : Region.ready .any ops listed = [] := by
   cases hq : Region.ready .any ops listed with
   | nil => rfl
   | cons i rs =>
    have hm : i ∈ Region.ready .any ops listed := by rw [hq]; exact List.mem_cons_self
    rw [mem_ready] at hm
    obtain ⟨h1, o, ho, _⟩ := hm
    have hlt : i < ops.size := (Array.getElem?_eq_some_iff.1 ho).1
    have : i ∈ (List.range ops.size).filter fun i => !listed.getD i false := by
     rw [List.mem_filter]
     refine ⟨by simpa using hlt, ?_⟩
     have h2 : i < listed.size := by omega
     simpa [h2] using h1
    have h0 : ((List.range ops.size).filter fun i => !listed.getD i false) = [] := List.eq_nil_of_length_eq_zero (by omega)
    rw [h0] at this
    cases this
  exact ⟨hr, fin listed u w hsz hb hv hr⟩
 | succ fuel ih =>
  intro listed u w hsz hf hb hv
  refine ⟨fin listed u w hsz hb hv, fun i hi => ?_⟩
  have hi' := hi
  rw [mem_ready] at hi
  obtain ⟨h1, o, ho, hdep⟩ := hi
  have hlt : i < ops.size := (Array.getElem?_eq_some_iff.1 ho).1
  obtain ⟨Φ, hΦ, hg, hl⟩ := hs i o ho
  have hback := backB_spec hB ho
  have hwt : Waited (Ψs.take i) o.after.toList u w := by
   intro e he hbind Φ' hΦ'
   have he' : e ∈ o.after := by simpa using he
   have h2 := hback e he'
   rw [List.getElem?_take_of_lt h2] at hΦ'
   exact hv e.on Φ' (hdep e he' hbind) hΦ'
  have hlook := hl u w hb hwt
  have hsz' : (listed.setIfInBounds i true).size = ops.size := by simpa using hsz
  have hcount : ((List.range ops.size).filter fun j => !(listed.setIfInBounds i true).getD j false).length ≤ fuel := by
   have hle : ((List.range ops.size).filter fun j => !(listed.setIfInBounds i true).getD j false).length < ((List.range ops.size).filter fun j => !listed.getD j false).length := by
    have hsub : ((List.range ops.size).filter fun j => !(listed.setIfInBounds i true).getD j false) = (((List.range ops.size).filter fun j => !listed.getD j false).filter fun j => decide (j ≠ i)) := by
     rw [List.filter_filter]
     apply List.filter_congr
     intro j hj
     have h2 : i < listed.size := by omega
     by_cases hij : i = j
     ·
      subst hij; simp [h2]
     ·
      have : ¬ j = i := fun h => hij h.symm
      simp [Array.getElem?_setIfInBounds_ne hij, this]
    rw [hsub]
    refine List.length_filter_lt_length_iff_exists.2 ⟨i, ?_, by simp⟩
    rw [List.mem_filter]
    refine ⟨by simpa using hlt, ?_⟩
    have h2 : i < listed.size := by omega
    simpa [h2] using h1
   omega
  have next : ∀ v w', Below w.heap.size w w' → Φ v w' → wpAny P .any ops Q fuel (listed.setIfInBounds i true) ((F u).put o.dst v) w' := by
   intro v w' hb' hΦv
   rw [hF i o u v ho]
   refine ih _ _ _ hsz' hcount (hb.trans (hb'.mono hb.size)) ?_
   intro j Φ' hj hΦj
   by_cases hij : j = i
   ·
    subst hij
    rw [hΦ] at hΦj
    injection hΦj with hΦj
    subst hΦj
    simpa [upd] using hΦv
   ·
    have hj' : listed.getD j false = true := by rwa [getD_set_ne false (fun h => hij h.symm)] at hj
    have := hv j Φ' hj' hΦj
    have hlj : j < Ψs.length := by
     rcases Nat.lt_or_ge j Ψs.length with h | h
     ·
      exact h
     ·
      rw [List.getElem?_eq_none h] at hΦj; cases hΦj
    obtain ⟨Φ2, q1, q2, _⟩ := hs j ops[j] (Array.getElem?_eq_getElem (by omega))
    rw [hΦj] at q1
    injection q1 with q1
    subst q1
    have hu : upd u i v j = u j := by simp [upd, hij]
    rw [hu]
    exact q2 _ _ _ this hb'
  unfold wpOp
  rw [ho]
  simp only
  unfold Looked at hlook
  by_cases hw : Region.wanted o (yielded ops (F u).tmps) = true
  ·
   rw [if_pos hw] at hlook ⊢
   exact .inl (hlook _ next)
  ·
   rw [if_neg hw] at hlook ⊢
   exact next undef w (Below.refl _ _) hlook
theorem wp_region_lex {id : Nat} {l : List Oper} {a : Act} (F : (Nat → Value) → Act) (hFl : ∀ u, fill u (l.map (·.dst)) 0 a = F u) (hm : P.follows .mixedOrders = true) (hB : backB l.toArray = true) (hap : apartB (l.map (·.dst)) = true)
  (h : Lex P l.toArray F w0 Q l 0 []) : (Code.region id l.toArray true).wp P Q a w0 := by
 obtain ⟨Ψs, h1, _, h3, h4⟩ := lex_words l 0 [] rfl h
 have hF : ∀ i o u v, l.toArray[i]? = some o → (F u).put o.dst v = F (upd u i v) := by
  intro i o u v ho
  rw [← hFl u, ← hFl (upd u i v)]
  have h2 : (l.map (·.dst))[i]? = some o.dst := by
   have h3 : l[i]? = some o := by simpa using ho
   simp [h3]
  have := fill_upd u v (l.map (·.dst)) 0 i a o.dst hap h2
  rwa [Nat.zero_add] at this
 have ha : a = F (fun i => match (l.map (·.dst))[i]? with | some (some d) => a.tmps.getD d undef | _ => undef) := by
  rw [← hFl]
  symm
  apply fill_self
  intro i d x hi hx
  simp only [Nat.zero_add, hi]
  simp [hx]
 refine wp_region_any hm ?_
 rw [ha]
 refine wpAny_lex (w0 := w0) hB Ψs (by simpa using h1) hF ?_ h4 _ _ _ _ (by simp) ?_ ⟨rfl, rfl, rfl, Nat.le_refl _, fun _ _ => rfl⟩ ?_
 ·
  intro i o ho
  have := h3 i o (by simpa using ho)
  simpa using this
 ·
  refine Nat.le_trans (List.length_filter_le _ _) (by simp)
 ·
  intro j Φ hj _
  exfalso
  simp only [Array.getD_eq_getD_getElem?, Array.getElem?_replicate] at hj
  by_cases hjl : j < l.toArray.size
  ·
   rw [if_pos hjl] at hj; cases hj
  ·
   rw [if_neg hjl] at hj; cases hj
theorem Lex.is {o : Oper} {rest : List Oper} {i : Nat} {Φs : List (Value → World → Prop)} {c : Value} (h : ∀ u w, Below w0.heap.size w0 w → Waited Φs o.after.toList u w → Looked P ops F o (Is c) Q u w)
  (r : Lex P ops F w0 Q rest (i + 1) (Φs ++ [Is c])) : Lex P ops F w0 Q (o :: rest) i Φs := ⟨Is c, grows_is c, h, r⟩
theorem Lex.word {o : Oper} {rest : List Oper} {i : Nat} {Φs : List (Value → World → Prop)} (Φ : Value → World → Prop) (hg : Grows Φ) (h : ∀ u w, Below w0.heap.size w0 w → Waited Φs o.after.toList u w → Looked P ops F o Φ Q u w)
  (r : Lex P ops F w0 Q rest (i + 1) (Φs ++ [Φ])) : Lex P ops F w0 Q (o :: rest) i Φs := ⟨Φ, hg, h, r⟩
theorem Lex.nil {i : Nat} {Φs : List (Value → World → Prop)} (h : ∀ u w, Below w0.heap.size w0 w → (∀ (j : Nat) (Φ : Value → World → Prop), Φs[j]? = some Φ → Φ (u j) w) → Q .normal (F u) w) : Lex P ops F w0 Q [] i Φs := h
theorem looked_want {o : Oper} {Φ : Value → World → Prop} {u : Nat → Value} {w : World} (hw : Region.wanted o (yielded ops (F u).tmps) = true)
  (h : ∀ K : Act → World → Prop, (∀ v w', Below w.heap.size w w' → Φ v w' → K ((F u).put o.dst v) w') → o.wp P (F u) w K Q) : Looked P ops F o Φ Q u w := by
 unfold Looked
 rw [if_pos hw]
 exact h
theorem looked_skip {o : Oper} {Φ : Value → World → Prop} {u : Nat → Value} {w : World} (hw : Region.wanted o (yielded ops (F u).tmps) = false) (h : Φ undef w) : Looked P ops F o Φ Q u w := by
 unfold Looked
 rw [if_neg (by rw [hw]; exact Bool.false_ne_true)]
 exact h
end
end Go.Proofs.YtkaggddmhjifjaaGreatDoor
namespace Go.Proofs.YtkaggddmhjifjaaGreatDoor
open Go.RowKit
def awaitB (ops : Array Oper) : Bool := (List.range (ops.size - 1)).all fun i => (List.range ops.size).any fun j => decide (i < j) && ((ops[j]?).map fun o => o.after.any fun e => decide (e.on = i) && Region.binds .any e).getD false
section
variable {P : Program} {ops : Array Oper} {F : (Nat → Value) → Act} {w0 : World} {Q : Exit → Act → World → Prop}
theorem awaitB_spec (h : awaitB ops = true) {i : Nat} (hi : i < ops.size - 1) : ∃ j o, i < j ∧ ops[j]? = some o ∧ ∃ e ∈ o.after, e.on = i ∧ Region.binds .any e = true := by
 unfold awaitB at h
 rw [List.all_eq_true] at h
 have h1 := h i (by simpa using hi)
 rw [List.any_eq_true] at h1
 obtain ⟨j, hj, h2⟩ := h1
 simp only [Bool.and_eq_true, decide_eq_true_eq] at h2
 obtain ⟨h3, h4⟩ := h2
 cases ho : ops[j]? with
 | none => rw [ho] at h4; simp at h4
 | some o =>
  rw [ho] at h4
  simp only [Option.map_some, Option.getD_some, Array.any_eq_true'] at h4
  obtain ⟨e, he, h5⟩ := h4
  simp only [Bool.and_eq_true, decide_eq_true_eq] at h5
  exact ⟨j, o, h3, ho, e, he, h5.1, h5.2⟩
theorem wpAny_done {fuel : Nat} {listed : Array Bool} {a : Act} {w : World} (hr : Region.ready .any ops listed = []) (h : Q .normal a w) : wpAny P .any ops Q fuel listed a w := by
 cases fuel with
 | zero => exact ⟨hr, h⟩
 | succ fuel => exact ⟨fun _ => h, fun i hi => by rw [hr] at hi; cases hi⟩
def LexL (P : Program) (ops : Array Oper) (F : (Nat → Value) → Act) (w0 : World) (Q : Exit → Act → World → Prop) : List Oper → Nat → List (Value → World → Prop) → Prop
 | [], _, _ => False
 | [o], _, Φs => ∀ u w, Below w0.heap.size w0 w → (∀ (i : Nat) (Φ : Value → World → Prop), Φs[i]? = some Φ → Φ (u i) w) → Region.wanted o (yielded ops (F u).tmps) = true ∧ ∀ K : Act → World → Prop, (∀ a w', Q .normal a w' → K a w') → o.wp P (F u) w K Q
 | o :: o' :: rest, i, Φs => ∃ Φ, Grows Φ ∧ (∀ u w, Below w0.heap.size w0 w → Waited Φs o.after.toList u w → Looked P ops F o Φ Q u w) ∧ LexL P ops F w0 Q (o' :: rest) (i + 1) (Φs ++ [Φ])
theorem lexl_words : ∀ (l : List Oper) (i : Nat) (Φs : List (Value → World → Prop)), Φs.length = i → LexL P ops F w0 Q l i Φs → ∃ Ψs : List (Value → World → Prop), 0 < l.length ∧ Ψs.length + 1 = i + l.length ∧ (∀ j, j < i → Ψs[j]? = Φs[j]?) ∧
  (∀ j o, l[j]? = some o → j + 1 < l.length → ∃ Φ, Ψs[i + j]? = some Φ ∧ Grows Φ ∧ ∀ u w, Below w0.heap.size w0 w → Waited (Ψs.take (i + j)) o.after.toList u w → Looked P ops F o Φ Q u w) ∧
  (∀ o, l[l.length - 1]? = some o → ∀ u w, Below w0.heap.size w0 w → (∀ (j : Nat) (Φ : Value → World → Prop), Ψs[j]? = some Φ → Φ (u j) w) → Region.wanted o (yielded ops (F u).tmps) = true ∧ ∀ K : Act → World → Prop, (∀ a w', Q .normal a w' → K a w') → o.wp P (F u) w K Q)
 | [], i, Φs, hl, h => h.elim
 | [o], i, Φs, hl, h => ⟨Φs, by simp, by simpa using hl, fun _ _ => rfl, fun j o ho hj => by simp at hj, fun o' ho => by
   simp only [List.length_cons, List.length_nil, Nat.zero_add, Nat.sub_self, List.getElem?_cons_zero, Option.some.injEq] at ho
   subst ho
   exact h⟩
 | o :: o' :: rest, i, Φs, hl, h => by
  obtain ⟨Φ, hg, hs, hr⟩ := h
  obtain ⟨Ψs, h0, h1, h2, h3, h4⟩ := lexl_words (o' :: rest) (i + 1) (Φs ++ [Φ]) (by simp [hl]) hr
  have hat : Ψs[i]? = some Φ := by rw [h2 i (by omega)]; simp [hl]
  have htake : Ψs.take i = Φs := by
   apply List.ext_getElem?
   intro j
   by_cases hj : j < i
   ·
    rw [List.getElem?_take_of_lt hj, h2 j (by omega), List.getElem?_append_left (by omega)]
   ·
    rw [List.getElem?_eq_none (by simp; omega), List.getElem?_eq_none (by omega)]
  refine ⟨Ψs, by simp, by simp at h1 ⊢; omega, fun j hj => by rw [h2 j (by omega), List.getElem?_append_left (by omega)], ?_, ?_⟩
  ·
   intro j p hp hj
   match j, hp with
   | 0, hp =>
    simp only [List.getElem?_cons_zero, Option.some.injEq] at hp
    subst hp
    refine ⟨Φ, by simpa using hat, hg, fun u w hb hw => ?_⟩
    have hw' : Waited Φs o.after.toList u w := by rw [Nat.add_zero, htake] at hw; exact hw
    exact hs u w hb hw'
   | j + 1, hp =>
    simp only [List.getElem?_cons_succ] at hp
    obtain ⟨Φ', a1, a2, a3⟩ := h3 j p hp (by simp at hj ⊢; omega)
    rw [show i + 1 + j = i + (j + 1) by omega] at a1 a3
    exact ⟨Φ', a1, a2, a3⟩
  ·
   intro p hp
   exact h4 p (by simpa using hp)
theorem wpAny_lexl (hB : backB ops = true) (hA : awaitB ops = true) (m : Nat) (hm : ops.size = m + 1) (Ψs : List (Value → World → Prop)) (hlen : Ψs.length = m)
  (hF : ∀ i o u v, ops[i]? = some o → (F u).put o.dst v = F (upd u i v))
  (hs : ∀ i o, i < m → ops[i]? = some o → ∃ Φ, Ψs[i]? = some Φ ∧ Grows Φ ∧ ∀ u w, Below w0.heap.size w0 w → Waited (Ψs.take i) o.after.toList u w → Looked P ops F o Φ Q u w)
  (hend : ∀ o, ops[m]? = some o → ∀ u w, Below w0.heap.size w0 w → (∀ (j : Nat) (Φ : Value → World → Prop), Ψs[j]? = some Φ → Φ (u j) w) → Region.wanted o (yielded ops (F u).tmps) = true ∧ ∀ K : Act → World → Prop, (∀ a w', Q .normal a w' → K a w') → o.wp P (F u) w K Q) :
  ∀ (fuel : Nat) (listed : Array Bool) (u : Nat → Value) (w : World), listed.size = ops.size → listed.getD m false = false → (∀ i o, ops[i]? = some o → listed.getD i false = true → ∀ e ∈ o.after, Region.binds .any e = true → listed.getD e.on false = true) →
   ((List.range ops.size).filter fun i => !listed.getD i false).length ≤ fuel → Below w0.heap.size w0 w →
   (∀ (j : Nat) (Φ : Value → World → Prop), listed.getD j false = true → Ψs[j]? = some Φ → Φ (u j) w) → wpAny P .any ops Q fuel listed (F u) w := by
 intro fuel
 induction fuel with
 | zero =>
  intro listed u w hsz h0 _ hf hb hv
  exfalso
  have : m ∈ (List.range ops.size).filter fun i => !listed.getD i false := by
   rw [List.mem_filter]
   exact ⟨by simp; omega, by rw [h0]; rfl⟩
  rw [List.eq_nil_of_length_eq_zero (by omega : ((List.range ops.size).filter fun i => !listed.getD i false).length = 0)] at this
  cases this
 | succ fuel ih =>
  intro listed u w hsz h0 hcl hf hb hv
  refine ⟨fun hr => ?_, fun i hi => ?_⟩
  ·
   have := all_listed hB listed hsz hr ops.size m (by omega) (by omega)
   rw [h0] at this; cases this
  have hi' := hi
  rw [mem_ready] at hi
  obtain ⟨h1, o, ho, hdep⟩ := hi
  have hlt : i < ops.size := (Array.getElem?_eq_some_iff.1 ho).1
  have hback := backB_spec hB ho
  have hsz' : (listed.setIfInBounds i true).size = ops.size := by simpa using hsz
  by_cases him : i = m
  ·
   subst him
   have hall : ∀ k j, j < i → i - j ≤ k → listed.getD j false = true := by
    intro k
    induction k with
    | zero => intro j h1 h2; omega
    | succ k ihk =>
     intro j hj hk
     obtain ⟨j', o', hjj, ho', e, he, heq, hbind⟩ := awaitB_spec hA (i := j) (by omega)
     have hj'lt : j' < ops.size := (Array.getElem?_eq_some_iff.1 ho').1
     by_cases hji : j' = i
     ·
      subst hji
      rw [ho] at ho'
      injection ho' with ho'
      subst ho'
      rw [← heq]
      exact hdep e he hbind
     ·
      rw [← heq]
      exact hcl j' o' ho' (ihk j' (by omega) (by omega)) e he hbind
   have hv' : ∀ (j : Nat) (Φ : Value → World → Prop), Ψs[j]? = some Φ → Φ (u j) w := by
    intro j Φ hj
    have hjl : j < Ψs.length := by
     rcases Nat.lt_or_ge j Ψs.length with h | h
     ·
      exact h
     ·
      rw [List.getElem?_eq_none h] at hj; cases hj
    exact hv j Φ (hall _ j (by omega) (Nat.le_refl _)) hj
   obtain ⟨hw, hwp⟩ := hend o ho u w hb hv'
   unfold wpOp
   rw [ho]
   simp only
   rw [if_pos hw]
   refine .inl (hwp _ fun a w' hQ => wpAny_done ?_ hQ)
   have hall' : ∀ j, j < ops.size → (listed.setIfInBounds i true).getD j false = true := by
    intro j hj
    by_cases hji : i = j
    ·
     subst hji
     have h2 : i < listed.size := by omega
     simp [h2]
    ·
     rw [getD_set_ne false hji]
     exact hall _ j (by omega) (Nat.le_refl _)
   cases hr : Region.ready .any ops (listed.setIfInBounds i true) with
   | nil => rfl
   | cons j js =>
    exfalso
    have hj : j ∈ Region.ready .any ops (listed.setIfInBounds i true) := by rw [hr]; exact List.mem_cons_self
    rw [mem_ready] at hj
    obtain ⟨q1, q2, q3, _⟩ := hj
    have hjs : j < ops.size := (Array.getElem?_eq_some_iff.1 q3).1
    have := hall' j hjs
    have h2 : j < (listed.setIfInBounds i true).size := by omega
    rw [Array.getD_eq_getD_getElem?, Array.getElem?_eq_getElem h2] at this
    simp only [Option.getD_some] at this
    rw [Array.getD_eq_getD_getElem?, Array.getElem?_eq_getElem h2, Option.getD_some, this] at q1
    cases q1
  ·
   obtain ⟨Φ, hΦ, hg, hl⟩ := hs i o (by omega) ho
   have hwt : Waited (Ψs.take i) o.after.toList u w := by
    intro e he hbind Φ' hΦ'
    have he' : e ∈ o.after := by simpa using he
    have h2 := hback e he'
    rw [List.getElem?_take_of_lt h2] at hΦ'
    exact hv e.on Φ' (hdep e he' hbind) hΦ'
   have hlook := hl u w hb hwt
   have hcount : ((List.range ops.size).filter fun j => !(listed.setIfInBounds i true).getD j false).length ≤ fuel := by
    have hle : ((List.range ops.size).filter fun j => !(listed.setIfInBounds i true).getD j false).length < ((List.range ops.size).filter fun j => !listed.getD j false).length := by
     have hsub : ((List.range ops.size).filter fun j => !(listed.setIfInBounds i true).getD j false) = (((List.range ops.size).filter fun j => !listed.getD j false).filter fun j => decide (j ≠ i)) := by
      rw [List.filter_filter]
      apply List.filter_congr
      intro j hj
      have h2 : i < listed.size := by omega
      by_cases hij : i = j
      ·
       subst hij; simp [h2]
      ·
       have : ¬ j = i := fun h => hij h.symm
       simp [Array.getElem?_setIfInBounds_ne hij, this]
     rw [hsub]
     refine List.length_filter_lt_length_iff_exists.2 ⟨i, ?_, by simp⟩
     rw [List.mem_filter]
     refine ⟨by simpa using hlt, ?_⟩
     have h2 : i < listed.size := by omega
     simpa [h2] using h1
    omega
   have next : ∀ v w', Below w.heap.size w w' → Φ v w' → wpAny P .any ops Q fuel (listed.setIfInBounds i true) ((F u).put o.dst v) w' := by
    intro v w' hb' hΦv
    rw [hF i o u v ho]
    refine ih _ _ _ hsz' (by rw [getD_set_ne false him]; exact h0) ?_ hcount (hb.trans (hb'.mono hb.size)) ?_
    ·
     intro j o' ho' hj e he hbind
     have up : ∀ k, listed.getD k false = true → (listed.setIfInBounds i true).getD k false = true := by
      intro k hk
      by_cases hik : i = k
      ·
       subst hik
       have h2 : i < listed.size := by omega
       simp [h2]
      ·
       rw [getD_set_ne false hik]; exact hk
     by_cases hij : i = j
     ·
      subst hij
      rw [ho] at ho'
      injection ho' with ho'
      subst ho'
      exact up _ (hdep e he hbind)
     ·
      rw [getD_set_ne false hij] at hj
      exact up _ (hcl j o' ho' hj e he hbind)
    intro j Φ' hj hΦj
    by_cases hij : j = i
    ·
     subst hij
     rw [hΦ] at hΦj
     injection hΦj with hΦj
     subst hΦj
     simpa [upd] using hΦv
    ·
     have hj' : listed.getD j false = true := by rwa [getD_set_ne false (fun h => hij h.symm)] at hj
     have := hv j Φ' hj' hΦj
     have hlj : j < Ψs.length := by
      rcases Nat.lt_or_ge j Ψs.length with h | h
      ·
       exact h
      ·
       rw [List.getElem?_eq_none h] at hΦj; cases hΦj
     obtain ⟨Φ2, q1, q2, _⟩ := hs j ops[j] (by omega) (Array.getElem?_eq_getElem (by omega))
     rw [hΦj] at q1
     injection q1 with q1
     subst q1
     have hu : upd u i v j = u j := by simp [upd, hij]
     rw [hu]
     exact q2 _ _ _ this hb'
   unfold wpOp
   rw [ho]
   simp only
   unfold Looked at hlook
   by_cases hw : Region.wanted o (yielded ops (F u).tmps) = true
   ·
    rw [if_pos hw] at hlook ⊢
    exact .inl (hlook _ next)
   ·
    rw [if_neg hw] at hlook ⊢
    exact next undef w (Below.refl _ _) hlook
theorem wp_region_lexl {id : Nat} {l : List Oper} {a : Act} (F : (Nat → Value) → Act) (hFl : ∀ u, fill u (l.map (·.dst)) 0 a = F u) (hm : P.follows .mixedOrders = true) (hB : backB l.toArray = true) (hA : awaitB l.toArray = true) (hap : apartB (l.map (·.dst)) = true)
  (h : LexL P l.toArray F w0 Q l 0 []) : (Code.region id l.toArray true).wp P Q a w0 := by
 obtain ⟨Ψs, h0, h1, _, h3, h4⟩ := lexl_words l 0 [] rfl h
 have hF : ∀ i o u v, l.toArray[i]? = some o → (F u).put o.dst v = F (upd u i v) := by
  intro i o u v ho
  rw [← hFl u, ← hFl (upd u i v)]
  have h2 : (l.map (·.dst))[i]? = some o.dst := by
   have h3 : l[i]? = some o := by simpa using ho
   simp [h3]
  have := fill_upd u v (l.map (·.dst)) 0 i a o.dst hap h2
  rwa [Nat.zero_add] at this
 have ha : a = F (fun i => match (l.map (·.dst))[i]? with | some (some d) => a.tmps.getD d undef | _ => undef) := by
  rw [← hFl]
  symm
  apply fill_self
  intro i d x hi hx
  simp only [Nat.zero_add, hi]
  simp [hx]
 refine wp_region_any hm ?_
 rw [ha]
 refine wpAny_lexl (w0 := w0) hB hA (l.length - 1) (by simp; omega) Ψs (by omega) hF ?_ ?_ _ _ _ _ (by simp) ?_ ?_ ?_ ⟨rfl, rfl, rfl, Nat.le_refl _, fun _ _ => rfl⟩ ?_
 ·
  intro i o hi ho
  have := h3 i o (by simpa using ho) (by omega)
  simpa using this
 ·
  intro o ho
  exact h4 o (by simpa using ho)
 ·
  simp only [Array.getD_eq_getD_getElem?, Array.getElem?_replicate]
  split <;> rfl
 ·
  intro i o _ hi
  exfalso
  simp only [Array.getD_eq_getD_getElem?, Array.getElem?_replicate] at hi
  split at hi <;> cases hi
 ·
  refine Nat.le_trans (List.length_filter_le _ _) (by simp)
 ·
  intro j Φ hj _
  exfalso
  simp only [Array.getD_eq_getD_getElem?, Array.getElem?_replicate] at hj
  split at hj <;> cases hj
theorem LexL.is {o o' : Oper} {rest : List Oper} {i : Nat} {Φs : List (Value → World → Prop)} {c : Value} (h : ∀ u w, Below w0.heap.size w0 w → Waited Φs o.after.toList u w → Looked P ops F o (Is c) Q u w)
  (r : LexL P ops F w0 Q (o' :: rest) (i + 1) (Φs ++ [Is c])) : LexL P ops F w0 Q (o :: o' :: rest) i Φs := ⟨Is c, grows_is c, h, r⟩
theorem LexL.word {o o' : Oper} {rest : List Oper} {i : Nat} {Φs : List (Value → World → Prop)} (Φ : Value → World → Prop) (hg : Grows Φ) (h : ∀ u w, Below w0.heap.size w0 w → Waited Φs o.after.toList u w → Looked P ops F o Φ Q u w)
  (r : LexL P ops F w0 Q (o' :: rest) (i + 1) (Φs ++ [Φ])) : LexL P ops F w0 Q (o :: o' :: rest) i Φs := ⟨Φ, hg, h, r⟩
theorem LexL.last {o : Oper} {i : Nat} {Φs : List (Value → World → Prop)} (h : ∀ u w, Below w0.heap.size w0 w → (∀ (j : Nat) (Φ : Value → World → Prop), Φs[j]? = some Φ → Φ (u j) w) → Region.wanted o (yielded ops (F u).tmps) = true ∧ ∀ K : Act → World → Prop, (∀ a w', Q .normal a w' → K a w') → o.wp P (F u) w K Q) : LexL P ops F w0 Q [o] i Φs := h
end
end Go.Proofs.YtkaggddmhjifjaaGreatDoor
namespace Go.Proofs.YtkaggddmhjifjaaGreatDoor
open Go.RowKit
theorem run_storeVar_cell {P : Program} (w : World) (g i : Nat) (t ty : TypeId) (old : Array Value) (v : Value) (hg : Blk w g t old) (hi : i < old.size) (hs : (P.info? ty).map (·.size) = some 1) (h1 : v.oneCell' = true) :
  (storeVar ty ⟨g, i, none⟩ v).run P w = .ok () (w.setCell ⟨g, i, none⟩ v) := by
 have hc : v.cells = #[v] := by cases v <;> first | rfl | cases h1
 have hcell : w.cell? ⟨g, i, none⟩ = some old[i] := by rw [hg.cell]; simp [hi]
 have hfr := hg.frozen i
 cases hq : P.info? ty with
 | none => simp [hq] at hs
 | some j =>
  have hj : j.size = 1 := by simpa [hq] using hs
  have hadd : Addr.add ⟨g, i, none⟩ 0 = ⟨g, i, none⟩ := by simp [Addr.add]
  simp [storeVar, sizeOf, typeInfo, hq, hc, hj, storeCells, run_store, h1, hcell, hfr, hadd]
theorem wpList_store_own2 {P : Program} {ops : Array Oper} {rest : List Oper} {o : Oper} {a : Act} {w : World} {Q : Exit → Act → World → Prop} (hgd : o.guard = none) (ty : TypeId) (x y : Operand) (ho : o.op = .store ty x y)
  (g : Nat) (cells : Array Value) (hx : a.eval x = .pointer (some ⟨g, 0, none⟩)) (hy : a.eval y = .agg cells)
  (t : TypeId) (old : Array Value) (hg : Blk w g t old) (hi : (P.info? ty).map (·.size) = some cells.size)
  (hold : old.size = cells.size) (h1 : cells.all (·.oneCell') = true)
  (B : Nat) (w0 : World) (hb : Below B w0 w) (hB : B ≤ g)
  (h : ∀ W : World, Blk W g t cells → Below B w0 W → W.heap.size = w.heap.size → (∀ k, k ≠ g → W.heap[k]? = w.heap[k]?) → wpList P ops Q rest (a.put o.dst undef) W) :
  wpList P ops Q (o :: rest) a w :=
 wpList_store_row hgd ty x y ho g cells hx hy t old hg hi hold h1
  (h _ (Blk.row hg _) (below_row hb hB _) (by simp) fun k hk => setRow_other w g k cells hk)
section
variable {P : Program} (w : World) (src dst : TypeId)
end
end Go.Proofs.YtkaggddmhjifjaaGreatDoor
namespace Go.Proofs.YtkaggddmhjifjaaGreatDoor
open Go.RowKit
def backB2 (ops : Array Oper) : Bool := (List.range ops.size).all fun i => ((ops[i]?).map fun o => o.after.all fun e => !Region.binds .any e || decide (e.on < i)).getD false
theorem backB2_spec {ops : Array Oper} (hB : backB2 ops = true) {i : Nat} {o : Oper} (ho : ops[i]? = some o) : ∀ e ∈ o.after, Region.binds .any e = true → e.on < i := by
 intro e he hb
 unfold backB2 at hB
 rw [List.all_eq_true] at hB
 have hlt : i < ops.size := (Array.getElem?_eq_some_iff.1 ho).1
 have := hB i (by simpa using hlt)
 rw [ho] at this
 simp only [Option.map_some, Option.getD_some, Array.all_eq_true_iff_forall_mem] at this
 have h2 := this e he
 rw [hb] at h2
 simpa using h2
theorem all_listed2 {ops : Array Oper} (hB : backB2 ops = true) (listed : Array Bool) (hsz : listed.size = ops.size) (h : Region.ready .any ops listed = []) : ∀ n i, i < n → i < ops.size → listed.getD i false = true
 | 0, _, h, _ => absurd h (by omega)
 | n + 1, i, hi, hlt => by
  have ih := all_listed2 hB listed hsz h n
  by_cases hin : i < n
  ·
   exact ih i hin hlt
  ·
   obtain rfl : i = n := by omega
   cases hd : listed.getD i false with
   | true => rfl
   | false =>
    have hm : i ∈ Region.ready .any ops listed := by
     rw [mem_ready]
     refine ⟨?_, ops[i], Array.getElem?_eq_getElem hlt, fun e he hb => ?_⟩
     ·
      have h2 : i < listed.size := by omega
      simpa [h2] using hd
     ·
      have := backB2_spec hB (Array.getElem?_eq_getElem hlt) e he hb
      exact ih e.on this (by omega)
    rw [h] at hm
    cases hm
section
variable {P : Program} {ops : Array Oper} {F : (Nat → Value) → Act} {w0 : World} {Q : Exit → Act → World → Prop}
def LookedT (P : Program) (ops : Array Oper) (F : (Nat → Value) → Act) (T : World → World → Prop) (o : Oper) (Φ : Value → World → Prop) (Q : Exit → Act → World → Prop) (u : Nat → Value) (w : World) : Prop :=
 if Region.wanted o (yielded ops (F u).tmps) = true then ∀ K : Act → World → Prop, (∀ v w', T w w' → Φ v w' → K ((F u).put o.dst v) w') → o.wp P (F u) w K Q
 else Φ undef w
theorem wpAny_lext (hB : backB2 ops = true) (G : World → World → Prop) (hGt : ∀ a b c, G a b → G b c → G a c) (T : Nat → World → World → Prop) (hTG : ∀ i w w', T i w w' → G w w')
  (Ψs : List (Value → World → Prop)) (hlen : Ψs.length = ops.size)
  (hF : ∀ i o u v, ops[i]? = some o → (F u).put o.dst v = F (upd u i v))
  (hst : ∀ i j (Φ : Value → World → Prop), i ≠ j → Ψs[j]? = some Φ → ∀ v w w', Φ v w → T i w w' → Φ v w')
  (hs : ∀ i o, ops[i]? = some o → ∃ Φ, Ψs[i]? = some Φ ∧ ∀ u w, G w0 w → Waited (Ψs.take i) o.after.toList u w → LookedT P ops F (T i) o Φ Q u w)
  (hend : ∀ u w, G w0 w → (∀ (j : Nat) (Φ : Value → World → Prop), Ψs[j]? = some Φ → Φ (u j) w) → Q .normal (F u) w) :
  ∀ (fuel : Nat) (listed : Array Bool) (u : Nat → Value) (w : World), listed.size = ops.size → ((List.range ops.size).filter fun i => !listed.getD i false).length ≤ fuel → G w0 w →
   (∀ (j : Nat) (Φ : Value → World → Prop), listed.getD j false = true → Ψs[j]? = some Φ → Φ (u j) w) → wpAny P .any ops Q fuel listed (F u) w := by
 have fin : ∀ (listed : Array Bool) (u : Nat → Value) (w : World), listed.size = ops.size → G w0 w → (∀ (j : Nat) (Φ : Value → World → Prop), listed.getD j false = true → Ψs[j]? = some Φ → Φ (u j) w) → Region.ready .any ops listed = [] → Q .normal (F u) w := by
  intro listed u w hsz hb hv hr
  refine hend u w hb (fun j Φ hj => hv j Φ ?_ hj)
  have hlt : j < Ψs.length := by
   rcases Nat.lt_or_ge j Ψs.length with h | h
   ·
    exact h
   ·
    rw [List.getElem?_eq_none h] at hj; cases hj
  exact all_listed2 hB listed hsz hr ops.size j (by omega) (by omega)
 intro fuel
 induction fuel with
 | zero =>
  intro listed u w hsz hf hb hv
  have hr : Region.ready .any ops listed = [] := by
   cases hq : Region.ready .any ops listed with
   | nil => rfl
   | cons i rs =>
    have hm : i ∈ Region.ready .any ops listed := by rw [hq]; exact List.mem_cons_self
    rw [mem_ready] at hm
    obtain ⟨h1, o, ho, _⟩ := hm
    have hlt : i < ops.size := (Array.getElem?_eq_some_iff.1 ho).1
    have : i ∈ (List.range ops.size).filter fun i => !listed.getD i false := by
     rw [List.mem_filter]
     refine ⟨by simpa using hlt, ?_⟩
     have h2 : i < listed.size := by omega
     simpa [h2] using h1
    have h0 : ((List.range ops.size).filter fun i => !listed.getD i false) = [] := List.eq_nil_of_length_eq_zero (by omega)
    rw [h0] at this
    cases this
  exact ⟨hr, fin listed u w hsz hb hv hr⟩
 | succ fuel ih =>
  intro listed u w hsz hf hb hv
  refine ⟨fin listed u w hsz hb hv, fun i hi => ?_⟩
  rw [mem_ready] at hi
  obtain ⟨h1, o, ho, hdep⟩ := hi
  have hlt : i < ops.size := (Array.getElem?_eq_some_iff.1 ho).1
  obtain ⟨Φ, hΦ, hl⟩ := hs i o ho
  have hback := backB2_spec hB ho
  have hwt : Waited (Ψs.take i) o.after.toList u w := by
   intro e he hbind Φ' hΦ'
   have he' : e ∈ o.after := by simpa using he
   have h2 := hback e he' hbind
   rw [List.getElem?_take_of_lt h2] at hΦ'
   exact hv e.on Φ' (hdep e he' hbind) hΦ'
  have hlook := hl u w hb hwt
  have hsz' : (listed.setIfInBounds i true).size = ops.size := by simpa using hsz
  have hcount : ((List.range ops.size).filter fun j => !(listed.setIfInBounds i true).getD j false).length ≤ fuel := by
   have hle : ((List.range ops.size).filter fun j => !(listed.setIfInBounds i true).getD j false).length < ((List.range ops.size).filter fun j => !listed.getD j false).length := by
    have hsub : ((List.range ops.size).filter fun j => !(listed.setIfInBounds i true).getD j false) = (((List.range ops.size).filter fun j => !listed.getD j false).filter fun j => decide (j ≠ i)) := by
     rw [List.filter_filter]
     apply List.filter_congr
     intro j hj
     have h2 : i < listed.size := by omega
     by_cases hij : i = j
     ·
      subst hij; simp [h2]
     ·
      have : ¬ j = i := fun h => hij h.symm
      simp [Array.getElem?_setIfInBounds_ne hij, this]
    rw [hsub]
    refine List.length_filter_lt_length_iff_exists.2 ⟨i, ?_, by simp⟩
    rw [List.mem_filter]
    refine ⟨by simpa using hlt, ?_⟩
    have h2 : i < listed.size := by omega
    simpa [h2] using h1
   omega
  have step : ∀ v w', G w0 w' → (∀ (j : Nat) (Φ' : Value → World → Prop), j ≠ i → listed.getD j false = true → Ψs[j]? = some Φ' → Φ' (u j) w') → Φ v w' → wpAny P .any ops Q fuel (listed.setIfInBounds i true) ((F u).put o.dst v) w' := by
   intro v w' hb' hkeep hΦv
   rw [hF i o u v ho]
   refine ih _ _ _ hsz' hcount hb' ?_
   intro j Φ' hj hΦj
   by_cases hij : j = i
   ·
    subst hij
    rw [hΦ] at hΦj
    injection hΦj with hΦj
    subst hΦj
    simpa [upd] using hΦv
   ·
    have hj' : listed.getD j false = true := by rwa [getD_set_ne false (fun h => hij h.symm)] at hj
    have hu : upd u i v j = u j := by simp [upd, hij]
    rw [hu]
    exact hkeep j Φ' hij hj' hΦj
  unfold wpOp
  rw [ho]
  simp only
  unfold LookedT at hlook
  by_cases hw : Region.wanted o (yielded ops (F u).tmps) = true
  ·
   rw [if_pos hw] at hlook ⊢
   refine .inl (hlook _ fun v w' ht hΦv => step v w' (hGt _ _ _ hb (hTG i _ _ ht)) ?_ hΦv)
   intro j Φ' hij hj hΦj
   exact hst i j Φ' (fun h => hij h.symm) hΦj _ _ _ (hv j Φ' hj hΦj) ht
  ·
   rw [if_neg hw] at hlook ⊢
   exact step undef w hb (fun j Φ' _ hj hΦj => hv j Φ' hj hΦj) hlook
end
end Go.Proofs.YtkaggddmhjifjaaGreatDoor
namespace Go.Proofs.YtkaggddmhjifjaaGreatDoor
open Go.RowKit
abbrev Foot := List (Nat × Option Nat)
structure Stp (S : Foot) (w w' : World) : Prop where
 os : w'.os = w.os
 tape : w'.tape = w.tape
 output : w'.output = w.output
 size : w.heap.size ≤ w'.heap.size
 block : ∀ k, k < w.heap.size → (∀ o, (k, o) ∉ S) → w'.heap[k]? = w.heap[k]?
 shape : ∀ k t cs, Blk w k t cs → ∃ cs', Blk w' k t cs' ∧ cs'.size = cs.size ∧ ((k, none) ∉ S → ∀ i, (k, some i) ∉ S → cs'[i]? = cs[i]?)
theorem Stp.refl (S : Foot) (w : World) : Stp S w w := ⟨rfl, rfl, rfl, Nat.le_refl _, fun _ _ _ => rfl, fun _ _ cs h => ⟨cs, h, rfl, fun _ _ _ => rfl⟩⟩
theorem Stp.drew (S : Foot) (w : World) : Stp S w w.drew := ⟨rfl, rfl, rfl, Nat.le_refl _, fun _ _ _ => rfl, fun _ _ cs h => ⟨cs, h, rfl, fun _ _ _ => rfl⟩⟩
theorem Stp.trans {S : Foot} {a b c : World} (h : Stp S a b) (k : Stp S b c) : Stp S a c :=
 ⟨k.os.trans h.os, k.tape.trans h.tape, k.output.trans h.output, Nat.le_trans h.size k.size, fun i hi hn => (k.block i (Nat.lt_of_lt_of_le hi h.size) hn).trans (h.block i hi hn), fun i t cs hb => by
  obtain ⟨c1, h1, h2, h3⟩ := h.shape i t cs hb
  obtain ⟨c2, k1, k2, k3⟩ := k.shape i t c1 h1
  exact ⟨c2, k1, k2.trans h2, fun hn j hj => (k3 hn j hj).trans (h3 hn j hj)⟩⟩
theorem Stp.mono {S S' : Foot} {w w' : World} (h : Stp S w w') (hS : ∀ x, x ∈ S → x ∈ S') : Stp S' w w' :=
 ⟨h.os, h.tape, h.output, h.size, fun k hk hn => h.block k hk (fun o ho => hn o (hS _ ho)), fun k t cs hb => by
  obtain ⟨c1, h1, h2, h3⟩ := h.shape k t cs hb
  exact ⟨c1, h1, h2, fun hn i hi => h3 (fun hx => hn (hS _ hx)) i (fun hx => hi (hS _ hx))⟩⟩
theorem Stp.of_below {w w' : World} (h : Below w.heap.size w w') (S : Foot) : Stp S w w' :=
 ⟨h.os, h.tape, h.output, h.size, fun k hk _ => h.block k hk, fun _ _ cs hb => ⟨cs, hb.below h hb.lt, rfl, fun _ _ _ => rfl⟩⟩
theorem Stp.cell {w : World} (g i : Nat) (v : Value) : Stp [(g, some i)] w (w.setCell ⟨g, i, none⟩ v) := by
 refine ⟨rfl, rfl, rfl, by simp [World.setCell], fun k _ hn => Below.heap_setCell w _ v k (fun e => hn (some i) (by simp at e; simp [e])), fun k t cs hb => ?_⟩
 by_cases hk : k = g
 ·
  subst hk
  exact ⟨_, hb.set_ i v, by simp, fun _ j hj => by
   have : i ≠ j := fun e => hj (by simp [e])
   simp [Array.getElem?_setIfInBounds_ne this]⟩
 ·
  exact ⟨cs, hb.far (p := ⟨g, i, none⟩) hk v, rfl, fun _ _ _ => rfl⟩
theorem Stp.row {w : World} (g : Nat) (t : TypeId) (old cs : Array Value) (hg : Blk w g t old) (hs : old.size = cs.size) : Stp [(g, none)] w (w.setRow g cs) := by
 refine ⟨rfl, rfl, rfl, by simp, fun k _ hn => setRow_other w g k cs (fun e => hn none (by simp [e])), fun k t' c0 hb => ?_⟩
 by_cases hk : k = g
 ·
  subst hk
  have : t' = t ∧ c0 = old := by
   unfold Blk at hg hb
   rw [hg] at hb
   simp at hb
   exact ⟨hb.2.symm, hb.1.symm⟩
  obtain ⟨rfl, rfl⟩ := this
  exact ⟨cs, hg.row cs, hs.symm, fun hn => absurd (by simp) hn⟩
 ·
  exact ⟨c0, hb.rowFar hk cs, rfl, fun _ _ _ => rfl⟩
theorem Stp.blk {S : Foot} {w w' : World} (h : Stp S w w') {g : Nat} {t : TypeId} {cs : Array Value} (hb : Blk w g t cs) (hn : ∀ o, (g, o) ∉ S) : Blk w' g t cs := (h.block g hb.lt hn).trans hb
def AtCell (g n i : Nat) (t : TypeId) (v : Value) : Value → World → Prop := fun _ w => ∃ cs, Blk w g t cs ∧ cs.size = n ∧ cs[i]? = some v
theorem AtCell.keep {S : Foot} {w w' : World} {g n i : Nat} {t : TypeId} {v x : Value} (h : AtCell g n i t v x w) (hs : Stp S w w') (h1 : (g, none) ∉ S) (h2 : (g, some i) ∉ S) : AtCell g n i t v x w' := by
 obtain ⟨cs, hb, hn, hi⟩ := h
 obtain ⟨c2, k1, k2, k3⟩ := hs.shape g t cs hb
 exact ⟨c2, k1, k2.trans hn, (k3 h1 i h2).trans hi⟩
theorem Stp.below {S : Foot} {w w' : World} {B : Nat} (h : Stp S w w') (hB : B ≤ w.heap.size) (hS : ∀ k o, (k, o) ∈ S → B ≤ k) : Below B w w' :=
 ⟨h.os, h.tape, h.output, h.size, fun k hk => h.block k (by omega) (fun o ho => by have := hS k o ho; omega)⟩
end Go.Proofs.YtkaggddmhjifjaaGreatDoor
namespace Go.Proofs.YtkaggddmhjifjaaGreatDoor
open Go.RowKit
def Apart2 (x y : Nat × Option Nat) : Prop := x.1 ≠ y.1 ∨ ∃ i j, x.2 = some i ∧ y.2 = some j ∧ i ≠ j
theorem Apart2.symm {x y : Nat × Option Nat} (h : Apart2 x y) : Apart2 y x := by
 rcases h with h | ⟨i, j, h1, h2, h3⟩
 ·
  exact .inl (fun e => h e.symm)
 ·
  exact .inr ⟨j, i, h2, h1, fun e => h3 e.symm⟩
structure W2 where
 Φ : Value → World → Prop
 pl : Option (Nat × Option Nat)
def W2.ok (S : Foot) (x : W2) : Prop := match x.pl with
 | none => ∀ v w w', x.Φ v w → Stp S w w' → x.Φ v w'
 | some p => p ∈ S ∧ ∀ S' v w w', (∀ q, q ∈ S' → Apart2 q p) → x.Φ v w → Stp S' w w' → x.Φ v w'
def W2.foot (x : W2) : Foot := match x.pl with
 | none => []
 | some p => [p]
def W2.fit (x y : W2) : Prop := ∀ p, x.pl = some p → ∀ q, y.pl = some q → Apart2 p q
section
variable {P : Program} {ops : Array Oper} {F : (Nat → Value) → Act} {w0 : World} {Q : Exit → Act → World → Prop} {S : Foot}
def LexS (P : Program) (ops : Array Oper) (F : (Nat → Value) → Act) (S : Foot) (w0 : World) (Q : Exit → Act → World → Prop) : List Oper → Nat → List W2 → Prop
 | [], _, Xs => Xs.Pairwise W2.fit ∧ ∀ u w, Stp S w0 w → (∀ (i : Nat) (x : W2), Xs[i]? = some x → x.Φ (u i) w) → Q .normal (F u) w
 | o :: rest, i, Xs => ∃ x : W2, x.ok S ∧ (∀ u w, Stp S w0 w → Waited (Xs.map (·.Φ)) o.after.toList u w → LookedT P ops F (Stp x.foot) o x.Φ Q u w) ∧ LexS P ops F S w0 Q rest (i + 1) (Xs ++ [x])
theorem lexs_words : ∀ (l : List Oper) (i : Nat) (Xs : List W2), Xs.length = i → LexS P ops F S w0 Q l i Xs → (∀ x, x ∈ Xs → x.ok S) → ∃ Ys : List W2, Ys.length = i + l.length ∧ (∀ j, j < i → Ys[j]? = Xs[j]?) ∧ (∀ x, x ∈ Ys → x.ok S) ∧
  (∀ j o, l[j]? = some o → ∃ x, Ys[i + j]? = some x ∧ ∀ u w, Stp S w0 w → Waited ((Ys.take (i + j)).map (·.Φ)) o.after.toList u w → LookedT P ops F (Stp x.foot) o x.Φ Q u w) ∧
  Ys.Pairwise W2.fit ∧ (∀ u w, Stp S w0 w → (∀ (j : Nat) (x : W2), Ys[j]? = some x → x.Φ (u j) w) → Q .normal (F u) w)
 | [], i, Xs, hl, h, hok => ⟨Xs, by simpa using hl, fun _ _ => rfl, hok, fun j o ho => by simp at ho, h.1, h.2⟩
 | o :: rest, i, Xs, hl, h, hok => by
  obtain ⟨x, hx, hs, hr⟩ := h
  obtain ⟨Ys, h1, h2, h3, h4, h5, h6⟩ := lexs_words rest (i + 1) (Xs ++ [x]) (by simp [hl]) hr (fun y hy => by
   rcases List.mem_append.1 hy with a | a
   ·
    exact hok y a
   ·
    simp at a; subst a; exact hx)
  have hat : Ys[i]? = some x := by rw [h2 i (by omega)]; simp [hl]
  have htake : Ys.take i = Xs := by
   apply List.ext_getElem?
   intro j
   by_cases hj : j < i
   ·
    rw [List.getElem?_take_of_lt hj, h2 j (by omega), List.getElem?_append_left (by omega)]
   ·
    rw [List.getElem?_eq_none (by simp; omega), List.getElem?_eq_none (by omega)]
  refine ⟨Ys, by simp at h1 ⊢; omega, fun j hj => by rw [h2 j (by omega), List.getElem?_append_left (by omega)], h3, ?_, h5, h6⟩
  intro j p hp
  match j, hp with
  | 0, hp =>
   simp only [List.getElem?_cons_zero, Option.some.injEq] at hp
   subst hp
   refine ⟨x, by simpa using hat, fun u w hb hw => ?_⟩
   have hw' : Waited (Xs.map (·.Φ)) o.after.toList u w := by rw [Nat.add_zero, htake] at hw; exact hw
   exact hs u w hb hw'
  | j + 1, hp =>
   simp only [List.getElem?_cons_succ] at hp
   obtain ⟨y, a1, a3⟩ := h4 j p hp
   rw [show i + 1 + j = i + (j + 1) by omega] at a1 a3
   exact ⟨y, a1, a3⟩
theorem wp_region_lexs {id : Nat} {l : List Oper} {a : Act} (S : Foot) (F : (Nat → Value) → Act) (hFl : ∀ u, fill u (l.map (·.dst)) 0 a = F u) (hm : P.follows .mixedOrders = true) (hB : backB2 l.toArray = true) (hap : apartB (l.map (·.dst)) = true)
  (h : LexS P l.toArray F S w0 Q l 0 []) : (Code.region id l.toArray true).wp P Q a w0 := by
 obtain ⟨Ys, h1, _, hok, h3, h4, h5⟩ := lexs_words l 0 [] rfl h (fun x hx => by cases hx)
 have hF : ∀ i o u v, l.toArray[i]? = some o → (F u).put o.dst v = F (upd u i v) := by
  intro i o u v ho
  rw [← hFl u, ← hFl (upd u i v)]
  have h2 : (l.map (·.dst))[i]? = some o.dst := by
   have h3 : l[i]? = some o := by simpa using ho
   simp [h3]
  have := fill_upd u v (l.map (·.dst)) 0 i a o.dst hap h2
  rwa [Nat.zero_add] at this
 have ha : a = F (fun i => match (l.map (·.dst))[i]? with | some (some d) => a.tmps.getD d undef | _ => undef) := by
  rw [← hFl]
  symm
  apply fill_self
  intro i d x hi hx
  simp only [Nat.zero_add, hi]
  simp [hx]
 refine wp_region_any hm ?_
 rw [ha]
 have hlen : Ys.length = l.length := by omega
 have footS : ∀ x, x ∈ Ys → ∀ p, p ∈ x.foot → p ∈ S := by
  intro x hx p hp
  have := hok x hx
  unfold W2.ok at this
  unfold W2.foot at hp
  cases hpl : x.pl with
  | none => rw [hpl] at hp; cases hp
  | some q => rw [hpl] at hp this; simp at hp; subst hp; exact this.1
 have fits : ∀ (i j : Nat) (x y : W2), i ≠ j → Ys[i]? = some x → Ys[j]? = some y → W2.fit x y := by
  intro i j x y hij hx hy
  obtain ⟨hi, rfl⟩ := List.getElem?_eq_some_iff.1 hx
  obtain ⟨hj, rfl⟩ := List.getElem?_eq_some_iff.1 hy
  rcases Nat.lt_or_gt_of_ne hij with g | g
  ·
   exact List.pairwise_iff_getElem.1 h4 i j hi hj g
  ·
   intro p hp q hq
   exact (List.pairwise_iff_getElem.1 h4 j i hj hi g q hq p hp).symm
 refine wpAny_lext (w0 := w0) hB (Stp S) (fun _ _ _ => Stp.trans) (fun i w w' => match Ys[i]? with | some x => Stp x.foot w w' | none => w' = w) ?_ (Ys.map (·.Φ)) (by simp; omega) hF ?_ ?_ ?_ _ _ _ _ (by simp) ?_ (Stp.drew S w0) ?_
 ·
  intro i w w' ht
  cases hx : Ys[i]? with
  | none => rw [hx] at ht; subst ht; exact Stp.refl _ _
  | some x => rw [hx] at ht; exact ht.mono (footS x (List.mem_of_getElem? hx))
 ·
  intro i j Φ hij hj v w w' hΦ ht
  rw [List.getElem?_map] at hj
  cases hy : Ys[j]? with
  | none => rw [hy] at hj; cases hj
  | some y =>
   rw [hy] at hj
   simp only [Option.map_some, Option.some.injEq] at hj
   subst hj
   cases hx : Ys[i]? with
   | none => rw [hx] at ht; subst ht; exact hΦ
   | some x =>
    rw [hx] at ht
    have hyo := hok y (List.mem_of_getElem? hy)
    unfold W2.ok at hyo
    cases hp : y.pl with
    | none =>
     rw [hp] at hyo
     exact hyo v w w' hΦ (ht.mono (footS x (List.mem_of_getElem? hx)))
    | some p =>
     rw [hp] at hyo
     refine hyo.2 x.foot v w w' ?_ hΦ ht
     intro q hq
     unfold W2.foot at hq
     cases hxp : x.pl with
     | none => rw [hxp] at hq; cases hq
     | some q' =>
      rw [hxp] at hq
      simp at hq
      subst hq
      exact fits i j x y hij hx hy _ hxp _ hp
 ·
  intro i o ho
  obtain ⟨x, a1, a2⟩ := h3 i o (by simpa using ho)
  rw [Nat.zero_add] at a1 a2
  refine ⟨x.Φ, by simp [a1], fun u w hb hw => ?_⟩
  have e : (fun w w' => match Ys[i]? with | some x => Stp x.foot w w' | none => w' = w) = Stp x.foot := by
   funext w w'
   rw [a1]
  rw [e]
  exact a2 u w hb (by rw [List.map_take]; exact hw)
 ·
  intro u w hb hv
  exact h5 u w hb (fun j x hx => hv j x.Φ (by simp [hx]))
 ·
  refine Nat.le_trans (List.length_filter_le _ _) (by simp)
 ·
  intro j Φ hj _
  exfalso
  simp only [Array.getD_eq_getD_getElem?, Array.getElem?_replicate] at hj
  split at hj <;> cases hj
theorem LexS.word {o : Oper} {rest : List Oper} {i : Nat} {Xs : List W2} (Φ : Value → World → Prop) (hst : ∀ v w w', Φ v w → Stp S w w' → Φ v w') (h : ∀ u w, Stp S w0 w → Waited (Xs.map (·.Φ)) o.after.toList u w → LookedT P ops F (Stp []) o Φ Q u w)
  (r : LexS P ops F S w0 Q rest (i + 1) (Xs ++ [⟨Φ, none⟩])) : LexS P ops F S w0 Q (o :: rest) i Xs := ⟨⟨Φ, none⟩, hst, h, r⟩
theorem LexS.is {o : Oper} {rest : List Oper} {i : Nat} {Xs : List W2} {c : Value} (h : ∀ u w, Stp S w0 w → Waited (Xs.map (·.Φ)) o.after.toList u w → LookedT P ops F (Stp []) o (Is c) Q u w)
  (r : LexS P ops F S w0 Q rest (i + 1) (Xs ++ [⟨Is c, none⟩])) : LexS P ops F S w0 Q (o :: rest) i Xs := ⟨⟨Is c, none⟩, fun _ _ _ h _ => h, h, r⟩
theorem LexS.row {o : Oper} {rest : List Oper} {i : Nat} {Xs : List W2} (g : Nat) (t : TypeId) (cs cells : Array Value) (hS : (g, none) ∈ S) (h0 : Blk w0 g t cs) (hsz : cs.size = cells.size) (ty : TypeId) (x y : Operand) (ho : o.op = .store ty x y) (hi : (P.info? ty).map (·.size) = some cells.size) (h1 : cells.all (·.oneCell') = true)
  (h : ∀ u w, Stp S w0 w → Waited (Xs.map (·.Φ)) o.after.toList u w → Region.wanted o (yielded ops (F u).tmps) = true ∧ (F u).eval x = .pointer (some ⟨g, 0, none⟩) ∧ (F u).eval y = .agg cells)
  (r : LexS P ops F S w0 Q rest (i + 1) (Xs ++ [⟨fun _ w => Blk w g t cells, some (g, none)⟩])) : LexS P ops F S w0 Q (o :: rest) i Xs := by
 refine ⟨⟨fun _ w => Blk w g t cells, some (g, none)⟩, ⟨hS, ?_⟩, ?_, r⟩
 ·
  intro S' v w w' hap hb hs
  refine hs.blk hb fun k hk => ?_
  rcases hap _ hk with a | ⟨i, j, _, a2, _⟩
  ·
   exact a rfl
  ·
   cases a2
 ·
  intro u w hk hd
  obtain ⟨hw, hx, hy⟩ := h u w hk hd
  obtain ⟨old, hg, hs, _⟩ := hk.shape g t cs h0
  show LookedT P ops F (Stp [(g, none)]) o _ Q u w
  unfold LookedT
  rw [if_pos hw]
  intro K hK
  exact wp_store_row ty x y ho g cells hx hy t old hg hi (hs.trans hsz) h1 (hK undef _ (Stp.row g t old cells hg (hs.trans hsz)) (Blk.row hg _))
theorem blk_join {S : Foot} {w W : World} {g n : Nat} {t : TypeId} {cs : Array Value} (hk : Stp S w W) (hb : Blk w g t cs) (new : Array Value) (hn : new.size = cs.size) (hnone : (g, none) ∉ S)
  (h : ∀ i, i < new.size → (new[i]? = cs[i]? ∧ (g, some i) ∉ S) ∨ ∃ v, new[i]? = some v ∧ AtCell g n i t v undef W) : Blk W g t new := by
 obtain ⟨cs', hb', hs, he⟩ := hk.shape g t cs hb
 have : cs' = new := by
  apply Array.ext_getElem?
  intro i
  by_cases hi : i < new.size
  ·
   rcases h i hi with ⟨a, b⟩ | ⟨v, a, cs2, b, _, c⟩
   ·
    rw [he hnone i b, a]
   ·
    have e : cs2 = cs' := by
     unfold Blk at b hb'
     rw [hb'] at b
     simp at b
     exact b.symm
    rw [a, ← e, c]
  ·
   rw [Array.getElem?_eq_none (by omega), Array.getElem?_eq_none (by omega)]
 rw [← this]
 exact hb'
theorem LexS.cell {o : Oper} {rest : List Oper} {i : Nat} {Xs : List W2} (g n j : Nat) (t : TypeId) (cs : Array Value) (v : Value) (hS : (g, some j) ∈ S) (h0 : Blk w0 g t cs) (hn : cs.size = n) (hj : j < n) (ty : TypeId) (x y : Operand) (ho : o.op = .store ty x y) (hi : (P.info? ty).map (·.size) = some 1) (h1 : v.oneCell' = true)
  (h : ∀ u w, Stp S w0 w → Waited (Xs.map (·.Φ)) o.after.toList u w → Region.wanted o (yielded ops (F u).tmps) = true ∧ (F u).eval x = .pointer (some ⟨g, j, none⟩) ∧ (F u).eval y = v)
  (r : LexS P ops F S w0 Q rest (i + 1) (Xs ++ [⟨AtCell g n j t v, some (g, some j)⟩])) : LexS P ops F S w0 Q (o :: rest) i Xs := by
 refine ⟨⟨AtCell g n j t v, some (g, some j)⟩, ⟨hS, ?_⟩, ?_, r⟩
 ·
  intro S' x w w' hap hb hs
  refine AtCell.keep (x := x) hb hs ?_ ?_
  ·
   intro hm
   rcases hap _ hm with a | ⟨_, _, a1, _, _⟩
   ·
    exact a rfl
   ·
    cases a1
  ·
   intro hm
   rcases hap _ hm with a | ⟨_, _, a1, a2, a3⟩
   ·
    exact a rfl
   ·
    injection a1 with a1; injection a2 with a2; exact a3 (a1.symm.trans a2)
 ·
  intro u w hk hd
  obtain ⟨hw, hx, hy⟩ := h u w hk hd
  obtain ⟨old, hg, hs, _⟩ := hk.shape g t cs h0
  show LookedT P ops F (Stp [(g, some j)]) o _ Q u w
  unfold LookedT
  rw [if_pos hw]
  intro K hK
  have hrun := run_storeVar_cell (P := P) w g j t ty old v hg (by omega) hi h1
  unfold Oper.wp execOp
  simp only [ho, hx, hy, Instr.storeAt, Instr.sureAddr, Sem.run_bind, Sem.run_pure, Result.andThen_ok, hrun]
  exact hK undef _ (Stp.cell g j v) ⟨_, hg.set_ j v, by rw [Array.size_setIfInBounds]; omega, Array.getElem?_setIfInBounds_self_of_lt (by omega)⟩
theorem LexS.nil {i : Nat} {Xs : List W2} (hp : Xs.Pairwise W2.fit) (h : ∀ u w, Stp S w0 w → (∀ (i : Nat) (x : W2), Xs[i]? = some x → x.Φ (u i) w) → Q .normal (F u) w) : LexS P ops F S w0 Q [] i Xs := ⟨hp, h⟩
theorem lookedT_want {o : Oper} {Φ : Value → World → Prop} {u : Nat → Value} {w : World} {T : World → World → Prop} (hw : Region.wanted o (yielded ops (F u).tmps) = true)
  (h : ∀ K : Act → World → Prop, (∀ v w', T w w' → Φ v w' → K ((F u).put o.dst v) w') → o.wp P (F u) w K Q) : LookedT P ops F T o Φ Q u w := by
 unfold LookedT
 rw [if_pos hw]
 exact h
end
end Go.Proofs.YtkaggddmhjifjaaGreatDoor
namespace Go.Proofs.YtkaggddmhjifjaaGreatDoor
open Go.RowKit
def putAt : Array Value → Nat → List Value → Array Value
 | a, _, [] => a
 | a, o, v :: vs => putAt (a.setIfInBounds o v) (o + 1) vs
theorem Blk.cells_ {g : Nat} {t : TypeId} : ∀ (vs : List Value) (o : Nat) (cs : Array Value) (w : World), Blk w g t cs → Blk (w.setCells g o vs) g t (putAt cs o vs)
 | [], _, _, _, h => h
 | v :: vs, o, cs, w, h => Blk.cells_ vs (o + 1) (cs.setIfInBounds o v) (w.setCell ⟨g, o, none⟩ v) (h.set_ o v)
theorem setCells_heap (g : Nat) : ∀ (vs : List Value) (o : Nat) (w : World), (w.setCells g o vs).heap.size = w.heap.size ∧ (∀ k, k ≠ g → (w.setCells g o vs).heap[k]? = w.heap[k]?) ∧ (w.setCells g o vs).os = w.os ∧ (w.setCells g o vs).tape = w.tape ∧ (w.setCells g o vs).output = w.output
 | [], _, _ => ⟨rfl, fun _ _ => rfl, rfl, rfl, rfl⟩
 | v :: vs, o, w => by
  obtain ⟨h1, h2, h3, h4, h5⟩ := setCells_heap g vs (o + 1) (w.setCell ⟨g, o, none⟩ v)
  refine ⟨h1.trans (by simp [World.setCell]), fun k hk => (h2 k hk).trans (Below.heap_setCell w ⟨g, o, none⟩ v k hk), h3, h4, h5⟩
theorem wpList_store_mid_own {P : Program} {ops : Array Oper} {rest : List Oper} {o : Oper} {a : Act} {w : World} {Q : Exit → Act → World → Prop} (hgd : o.guard = none) (ty : TypeId) (x y : Operand) (ho : o.op = .store ty x y)
  (g i : Nat) (cells : Array Value) (hx : a.eval x = .pointer (some ⟨g, i, none⟩)) (hy : a.eval y = .agg cells)
  (t : TypeId) (old : Array Value) (hg : Blk w g t old) (hi : (P.info? ty).map (·.size) = some cells.size)
  (hold : i + cells.size ≤ old.size) (h1 : cells.all (·.oneCell') = true)
  (B : Nat) (w0 : World) (hb : Below B w0 w) (hB : B ≤ g)
  (h : ∀ W : World, Blk W g t (putAt old i cells.toList) → Below B w0 W → W.heap.size = w.heap.size → (∀ k, k ≠ g → W.heap[k]? = w.heap[k]?) → wpList P ops Q rest (a.put o.dst undef) W) :
  wpList P ops Q (o :: rest) a w := by
 obtain ⟨h2, h3, h4, h5, h6⟩ := setCells_heap g cells.toList i w
 refine wpList_store_mid hgd ty x y ho g i cells hx hy ?_ hi h1 (h _ (Blk.cells_ cells.toList i old w hg) (hb.trans ⟨h4, h5, h6, by omega, fun k hk => h3 k (by omega)⟩) h2 h3)
 intro j hj
 have hc : w.cell? ⟨g, i + j, none⟩ = some (old[i + j]'(by omega)) := by rw [hg.cell]; simp
 exact ⟨by rw [hc]; rfl, hg.frozen _⟩
end Go.Proofs.YtkaggddmhjifjaaGreatDoor
namespace Go.Proofs.YtkaggddmhjifjaaGreatDoor
open Go.RowKit
abbrev Bk := Nat × TypeId × Array Value
structure Own (w W : World) (L : List Bk) : Prop where
 below : Below w.heap.size w W
 blk : ∀ x, x ∈ L → w.heap.size ≤ x.1 ∧ Blk W x.1 x.2.1 x.2.2
 nodup : (L.map (·.1)).Nodup
theorem Own.grow {w W W' : World} {L : List Bk} (h : Own w W L) (hb : Below W.heap.size W W') : Own w W' L :=
 ⟨h.below.trans (hb.mono h.below.size), fun x hx => ⟨(h.blk x hx).1, (h.blk x hx).2.below hb (h.blk x hx).2.lt⟩, h.nodup⟩
theorem Own.alloc {w W : World} {L : List Bk} (h : Own w W L) (t : TypeId) (cs : Array Value) (g : Nat) (hg : g = W.heap.size) : Own w (W.alloc (.cells cs t)) (L ++ [(g, t, cs)]) := by
 subst hg
 refine ⟨h.below.alloc h.below.size _, ?_, ?_⟩
 ·
  intro x hx
  rcases List.mem_append.1 hx with a | a
  ·
   exact ⟨(h.blk x a).1, (h.blk x a).2.alloc _⟩
  ·
   simp at a
   subst a
   exact ⟨h.below.size, Blk.new _ _ _⟩
 ·
  rw [List.map_append, List.nodup_append]
  refine ⟨h.nodup, by simp, ?_⟩
  intro a ha b hb
  simp at hb
  subst hb
  simp only [List.mem_map] at ha
  obtain ⟨x, hx, rfl⟩ := ha
  have := (h.blk x hx).2.lt
  omega
theorem Own.nil (w : World) : Own w w [] := ⟨Below.refl _ _, fun _ hx => absurd hx List.not_mem_nil, List.nodup_nil⟩
theorem Own.with {w W W' : World} {L1 L2 : List Bk} {g : Nat} {t : TypeId} {old cs : Array Value} (h : Own w W (L1 ++ (g, t, old) :: L2)) (hb : Below w.heap.size w W') (hg : Blk W' g t cs) (hk : ∀ k, k ≠ g → W'.heap[k]? = W.heap[k]?) : Own w W' (L1 ++ (g, t, cs) :: L2) := by
 have hnd := h.nodup
 rw [List.map_append, List.map_cons, List.nodup_append] at hnd
 obtain ⟨n1, n2, n3⟩ := hnd
 rw [List.nodup_cons] at n2
 have far : ∀ x, x ∈ L1 ∨ x ∈ L2 → x.1 ≠ g := by
  rintro x (hx | hx) e
  ·
   exact n3 x.1 (List.mem_map_of_mem hx) g (by simp) e
  ·
   have hm : x.1 ∈ L2.map (·.1) := List.mem_map_of_mem hx
   rw [e] at hm
   exact n2.1 hm
 refine ⟨hb, ?_, ?_⟩
 ·
  intro x hx
  rcases List.mem_append.1 hx with a | a
  ·
   have := h.blk x (by simp [a])
   exact ⟨this.1, (hk _ (far x (.inl a))).trans this.2⟩
  ·
   rcases List.mem_cons.1 a with rfl | a
   ·
    exact ⟨(h.blk (g, t, old) (by simp)).1, hg⟩
   ·
    have := h.blk x (by simp [a])
    exact ⟨this.1, (hk _ (far x (.inr a))).trans this.2⟩
 ·
  have := h.nodup
  simpa using this
theorem Own.at_ {w W : World} {L1 L2 : List Bk} {g : Nat} {t : TypeId} {cs : Array Value} (h : Own w W (L1 ++ (g, t, cs) :: L2)) : Blk W g t cs := (h.blk (g, t, cs) (by simp)).2
theorem Own.lo {w W : World} {L1 L2 : List Bk} {g : Nat} {t : TypeId} {cs : Array Value} (h : Own w W (L1 ++ (g, t, cs) :: L2)) : w.heap.size ≤ g := (h.blk (g, t, cs) (by simp)).1
theorem Own.after {w W W' : World} {L L' : List Bk} {S : Foot} (h : Own w W L) (hs : Stp S W W') (hS : ∀ k o, (k, o) ∈ S → w.heap.size ≤ k) (hL : L'.map (·.1) = L.map (·.1)) (hb : ∀ x, x ∈ L' → Blk W' x.1 x.2.1 x.2.2) : Own w W' L' := by
 refine ⟨h.below.trans (hs.below h.below.size hS), ?_, by rw [hL]; exact h.nodup⟩
 intro x hx
 have : x.1 ∈ L.map (·.1) := by rw [← hL]; exact List.mem_map_of_mem hx
 simp only [List.mem_map] at this
 obtain ⟨y, hy, e⟩ := this
 exact ⟨e ▸ (h.blk y hy).1, hb x hx⟩
section
variable {P : Program} {ops : Array Oper} {rest : List Oper} {o : Oper} {a : Act} {w W : World} {Q : Exit → Act → World → Prop}
theorem wpList_own_row {L1 L2 : List Bk} {g : Nat} {t : TypeId} {old : Array Value} (cells : Array Value) (hO : Own w W (L1 ++ (g, t, old) :: L2)) (hgd : o.guard = none) (x y : Operand) (ho : o.op = .store t x y) (hx : a.eval x = .pointer (some ⟨g, 0, none⟩)) (hy : a.eval y = .agg cells)
  (hi : (P.info? t).map (·.size) = some cells.size) (hold : old.size = cells.size) (h1 : cells.all (·.oneCell') = true)
  (h : ∀ W' : World, Own w W' (L1 ++ (g, t, cells) :: L2) → W'.heap.size = W.heap.size → (∀ k, k ≠ g → W'.heap[k]? = W.heap[k]?) → wpList P ops Q rest (a.put o.dst undef) W') : wpList P ops Q (o :: rest) a W :=
 wpList_store_own2 hgd t x y ho g cells hx hy t old hO.at_ hi hold h1 w.heap.size w hO.below hO.lo fun W' hg hb hz hk => h W' (hO.with hb hg hk) hz hk
theorem wpList_own_cell {L1 L2 : List Bk} {g : Nat} {t : TypeId} {old : Array Value} (i : Nat) (v : Value) (hO : Own w W (L1 ++ (g, t, old) :: L2)) (hgd : o.guard = none) (ty : TypeId) (x y : Operand) (ho : o.op = .store ty x y) (hx : a.eval x = .pointer (some ⟨g, i, none⟩)) (hy : a.eval y = v)
  (hi : (P.info? ty).map (·.size) = some 1) (hil : i < old.size) (h1 : v.oneCell' = true)
  (h : ∀ W' : World, Own w W' (L1 ++ (g, t, old.setIfInBounds i v) :: L2) → W'.heap.size = W.heap.size → (∀ k, k ≠ g → W'.heap[k]? = W.heap[k]?) → wpList P ops Q rest (a.put o.dst undef) W') : wpList P ops Q (o :: rest) a W := by
 have hg := hO.at_
 refine wpList_plain hgd fun K hK => ?_
 have hrun := run_storeVar_cell (P := P) W g i t ty old v hg hil hi h1
 unfold Oper.wp execOp
 simp only [ho, hx, hy, Instr.storeAt, Instr.sureAddr, Sem.run_bind, Sem.run_pure, Result.andThen_ok, hrun]
 have hk : ∀ k, k ≠ g → (W.setCell ⟨g, i, none⟩ v).heap[k]? = W.heap[k]? := fun k hk => Below.heap_setCell W ⟨g, i, none⟩ v k hk
 exact hK _ _ (h _ (hO.with (hO.below.setCell (p := ⟨g, i, none⟩) hO.lo v) (hg.set_ i v) hk) (by simp [World.setCell]) hk)
theorem wpList_own_mid {L1 L2 : List Bk} {g : Nat} {t : TypeId} {old : Array Value} (i : Nat) (cells : Array Value) (hO : Own w W (L1 ++ (g, t, old) :: L2)) (hgd : o.guard = none) (ty : TypeId) (x y : Operand) (ho : o.op = .store ty x y) (hx : a.eval x = .pointer (some ⟨g, i, none⟩)) (hy : a.eval y = .agg cells)
  (hi : (P.info? ty).map (·.size) = some cells.size) (hold : i + cells.size ≤ old.size) (h1 : cells.all (·.oneCell') = true)
  (h : ∀ W' : World, Own w W' (L1 ++ (g, t, putAt old i cells.toList) :: L2) → W'.heap.size = W.heap.size → (∀ k, k ≠ g → W'.heap[k]? = W.heap[k]?) → wpList P ops Q rest (a.put o.dst undef) W') : wpList P ops Q (o :: rest) a W :=
 wpList_store_mid_own hgd ty x y ho g i cells hx hy t old hO.at_ hi hold h1 w.heap.size w hO.below hO.lo fun W' hg hb hz hk => h W' (hO.with hb hg hk) hz hk
theorem wpList_want (hw : Region.wanted o (yielded ops a.tmps) = true) (h : ∀ K : Act → World → Prop, (∀ a w, wpList P ops Q rest a w → K a w) → o.wp P a W K Q) : wpList P ops Q (o :: rest) a W := by
 unfold wpList
 rw [if_pos hw]
 exact .inl (h _ fun _ _ h => h)
theorem wpList_own_loadg {L1 L2 : List Bk} {g : Nat} {t : TypeId} {cs : Array Value} (hO : Own w W (L1 ++ (g, t, cs) :: L2)) (hw : Region.wanted o (yielded ops a.tmps) = true) (x : Operand) (ho : o.op = .load t x) (hx : a.eval x = .pointer (some ⟨g, 0, none⟩)) (d : TypeDesc)
  (hu : P.underlying t = some d) (hd : (match d with | .struct _ | .array _ _ => true | _ => false) = true) (hi : (P.info? t).map (·.size) = some cs.size)
  (h : wpList P ops Q rest (a.put o.dst (.agg cs)) W) : wpList P ops Q (o :: rest) a W :=
 wpList_want hw fun _ hK => wp_load_row t x ho g hx t cs (0, 0) d hO.at_ hu hd hi (hK _ _ h)
theorem own_loadg0 {L : List Bk} {g : Nat} {t : TypeId} {cs : Array Value} (hO : Own w W ((g, t, cs) :: L)) (hw : Region.wanted o (yielded ops a.tmps) = true) (x : Operand) (ho : o.op = .load t x) (hx : a.eval x = .pointer (some ⟨g, 0, none⟩)) (d : TypeDesc)
  (hu : P.underlying t = some d) (hd : (match d with | .struct _ | .array _ _ => true | _ => false) = true) (hi : (P.info? t).map (·.size) = some cs.size)
  (h : wpList P ops Q rest (a.put o.dst (.agg cs)) W) : wpList P ops Q (o :: rest) a W := wpList_own_loadg (L1 := []) hO hw x ho hx d hu hd hi h
theorem own_row0 {L : List Bk} {g : Nat} {t : TypeId} {old : Array Value} (cells : Array Value) (hO : Own w W ((g, t, old) :: L)) (hgd : o.guard = none) (x y : Operand) (ho : o.op = .store t x y) (hx : a.eval x = .pointer (some ⟨g, 0, none⟩)) (hy : a.eval y = .agg cells)
  (hi : (P.info? t).map (·.size) = some cells.size) (hold : old.size = cells.size) (h1 : cells.all (·.oneCell') = true)
  (h : ∀ W' : World, Own w W' ((g, t, cells) :: L) → W'.heap.size = W.heap.size → (∀ k, k ≠ g → W'.heap[k]? = W.heap[k]?) → wpList P ops Q rest (a.put o.dst undef) W') : wpList P ops Q (o :: rest) a W := wpList_own_row (L1 := []) cells hO hgd x y ho hx hy hi hold h1 h
theorem own_cell0 {L : List Bk} {g : Nat} {t : TypeId} {old : Array Value} (i : Nat) (u : Value) (hO : Own w W ((g, t, old) :: L)) (hgd : o.guard = none) (ty : TypeId) (x y : Operand) (ho : o.op = .store ty x y) (hx : a.eval x = .pointer (some ⟨g, i, none⟩)) (hy : a.eval y = u)
  (hi : (P.info? ty).map (·.size) = some 1) (hil : i < old.size) (h1 : u.oneCell' = true)
  (h : ∀ W' : World, Own w W' ((g, t, old.setIfInBounds i u) :: L) → W'.heap.size = W.heap.size → (∀ k, k ≠ g → W'.heap[k]? = W.heap[k]?) → wpList P ops Q rest (a.put o.dst undef) W') : wpList P ops Q (o :: rest) a W := wpList_own_cell (L1 := []) i u hO hgd ty x y ho hx hy hi hil h1 h
theorem own_mid0 {L : List Bk} {g : Nat} {t : TypeId} {old : Array Value} (i : Nat) (cells : Array Value) (hO : Own w W ((g, t, old) :: L)) (hgd : o.guard = none) (ty : TypeId) (x y : Operand) (ho : o.op = .store ty x y) (hx : a.eval x = .pointer (some ⟨g, i, none⟩)) (hy : a.eval y = .agg cells)
  (hi : (P.info? ty).map (·.size) = some cells.size) (hold : i + cells.size ≤ old.size) (h1 : cells.all (·.oneCell') = true)
  (h : ∀ W' : World, Own w W' ((g, t, putAt old i cells.toList) :: L) → W'.heap.size = W.heap.size → (∀ k, k ≠ g → W'.heap[k]? = W.heap[k]?) → wpList P ops Q rest (a.put o.dst undef) W') : wpList P ops Q (o :: rest) a W := wpList_own_mid (L1 := []) i cells hO hgd ty x y ho hx hy hi hold h1 h
theorem Own.b0 {L : List Bk} {g : Nat} {t : TypeId} {cs : Array Value} (hO : Own w W ((g, t, cs) :: L)) : Blk W g t cs := Own.at_ (L1 := []) hO
theorem own_loadg1 {x0 : Bk} {L : List Bk} {g : Nat} {t : TypeId} {cs : Array Value} (hO : Own w W (x0 :: (g, t, cs) :: L)) (hw : Region.wanted o (yielded ops a.tmps) = true) (x : Operand) (ho : o.op = .load t x) (hx : a.eval x = .pointer (some ⟨g, 0, none⟩)) (d : TypeDesc)
  (hu : P.underlying t = some d) (hd : (match d with | .struct _ | .array _ _ => true | _ => false) = true) (hi : (P.info? t).map (·.size) = some cs.size)
  (h : wpList P ops Q rest (a.put o.dst (.agg cs)) W) : wpList P ops Q (o :: rest) a W := wpList_own_loadg (L1 := [x0]) hO hw x ho hx d hu hd hi h
theorem own_row1 {x0 : Bk} {L : List Bk} {g : Nat} {t : TypeId} {old : Array Value} (cells : Array Value) (hO : Own w W (x0 :: (g, t, old) :: L)) (hgd : o.guard = none) (x y : Operand) (ho : o.op = .store t x y) (hx : a.eval x = .pointer (some ⟨g, 0, none⟩)) (hy : a.eval y = .agg cells)
  (hi : (P.info? t).map (·.size) = some cells.size) (hold : old.size = cells.size) (h1 : cells.all (·.oneCell') = true)
  (h : ∀ W' : World, Own w W' (x0 :: (g, t, cells) :: L) → W'.heap.size = W.heap.size → (∀ k, k ≠ g → W'.heap[k]? = W.heap[k]?) → wpList P ops Q rest (a.put o.dst undef) W') : wpList P ops Q (o :: rest) a W := wpList_own_row (L1 := [x0]) cells hO hgd x y ho hx hy hi hold h1 h
theorem own_mid1 {x0 : Bk} {L : List Bk} {g : Nat} {t : TypeId} {old : Array Value} (i : Nat) (cells : Array Value) (hO : Own w W (x0 :: (g, t, old) :: L)) (hgd : o.guard = none) (ty : TypeId) (x y : Operand) (ho : o.op = .store ty x y) (hx : a.eval x = .pointer (some ⟨g, i, none⟩)) (hy : a.eval y = .agg cells)
  (hi : (P.info? ty).map (·.size) = some cells.size) (hold : i + cells.size ≤ old.size) (h1 : cells.all (·.oneCell') = true)
  (h : ∀ W' : World, Own w W' (x0 :: (g, t, putAt old i cells.toList) :: L) → W'.heap.size = W.heap.size → (∀ k, k ≠ g → W'.heap[k]? = W.heap[k]?) → wpList P ops Q rest (a.put o.dst undef) W') : wpList P ops Q (o :: rest) a W := wpList_own_mid (L1 := [x0]) i cells hO hgd ty x y ho hx hy hi hold h1 h
theorem Own.b1 {x0 : Bk} {L : List Bk} {g : Nat} {t : TypeId} {cs : Array Value} (hO : Own w W (x0 :: (g, t, cs) :: L)) : Blk W g t cs := Own.at_ (L1 := [x0]) hO
theorem own_loadg2 {x0 x1 : Bk} {L : List Bk} {g : Nat} {t : TypeId} {cs : Array Value} (hO : Own w W (x0 :: x1 :: (g, t, cs) :: L)) (hw : Region.wanted o (yielded ops a.tmps) = true) (x : Operand) (ho : o.op = .load t x) (hx : a.eval x = .pointer (some ⟨g, 0, none⟩)) (d : TypeDesc)
  (hu : P.underlying t = some d) (hd : (match d with | .struct _ | .array _ _ => true | _ => false) = true) (hi : (P.info? t).map (·.size) = some cs.size)
  (h : wpList P ops Q rest (a.put o.dst (.agg cs)) W) : wpList P ops Q (o :: rest) a W := wpList_own_loadg (L1 := [x0, x1]) hO hw x ho hx d hu hd hi h
theorem own_row2 {x0 x1 : Bk} {L : List Bk} {g : Nat} {t : TypeId} {old : Array Value} (cells : Array Value) (hO : Own w W (x0 :: x1 :: (g, t, old) :: L)) (hgd : o.guard = none) (x y : Operand) (ho : o.op = .store t x y) (hx : a.eval x = .pointer (some ⟨g, 0, none⟩)) (hy : a.eval y = .agg cells)
  (hi : (P.info? t).map (·.size) = some cells.size) (hold : old.size = cells.size) (h1 : cells.all (·.oneCell') = true)
  (h : ∀ W' : World, Own w W' (x0 :: x1 :: (g, t, cells) :: L) → W'.heap.size = W.heap.size → (∀ k, k ≠ g → W'.heap[k]? = W.heap[k]?) → wpList P ops Q rest (a.put o.dst undef) W') : wpList P ops Q (o :: rest) a W := wpList_own_row (L1 := [x0, x1]) cells hO hgd x y ho hx hy hi hold h1 h
theorem own_cell2 {x0 x1 : Bk} {L : List Bk} {g : Nat} {t : TypeId} {old : Array Value} (i : Nat) (u : Value) (hO : Own w W (x0 :: x1 :: (g, t, old) :: L)) (hgd : o.guard = none) (ty : TypeId) (x y : Operand) (ho : o.op = .store ty x y) (hx : a.eval x = .pointer (some ⟨g, i, none⟩)) (hy : a.eval y = u)
  (hi : (P.info? ty).map (·.size) = some 1) (hil : i < old.size) (h1 : u.oneCell' = true)
  (h : ∀ W' : World, Own w W' (x0 :: x1 :: (g, t, old.setIfInBounds i u) :: L) → W'.heap.size = W.heap.size → (∀ k, k ≠ g → W'.heap[k]? = W.heap[k]?) → wpList P ops Q rest (a.put o.dst undef) W') : wpList P ops Q (o :: rest) a W := wpList_own_cell (L1 := [x0, x1]) i u hO hgd ty x y ho hx hy hi hil h1 h
theorem own_mid2 {x0 x1 : Bk} {L : List Bk} {g : Nat} {t : TypeId} {old : Array Value} (i : Nat) (cells : Array Value) (hO : Own w W (x0 :: x1 :: (g, t, old) :: L)) (hgd : o.guard = none) (ty : TypeId) (x y : Operand) (ho : o.op = .store ty x y) (hx : a.eval x = .pointer (some ⟨g, i, none⟩)) (hy : a.eval y = .agg cells)
  (hi : (P.info? ty).map (·.size) = some cells.size) (hold : i + cells.size ≤ old.size) (h1 : cells.all (·.oneCell') = true)
  (h : ∀ W' : World, Own w W' (x0 :: x1 :: (g, t, putAt old i cells.toList) :: L) → W'.heap.size = W.heap.size → (∀ k, k ≠ g → W'.heap[k]? = W.heap[k]?) → wpList P ops Q rest (a.put o.dst undef) W') : wpList P ops Q (o :: rest) a W := wpList_own_mid (L1 := [x0, x1]) i cells hO hgd ty x y ho hx hy hi hold h1 h
theorem Own.b2 {x0 x1 : Bk} {L : List Bk} {g : Nat} {t : TypeId} {cs : Array Value} (hO : Own w W (x0 :: x1 :: (g, t, cs) :: L)) : Blk W g t cs := Own.at_ (L1 := [x0, x1]) hO
theorem own_loadg3 {x0 x1 x2 : Bk} {L : List Bk} {g : Nat} {t : TypeId} {cs : Array Value} (hO : Own w W (x0 :: x1 :: x2 :: (g, t, cs) :: L)) (hw : Region.wanted o (yielded ops a.tmps) = true) (x : Operand) (ho : o.op = .load t x) (hx : a.eval x = .pointer (some ⟨g, 0, none⟩)) (d : TypeDesc)
  (hu : P.underlying t = some d) (hd : (match d with | .struct _ | .array _ _ => true | _ => false) = true) (hi : (P.info? t).map (·.size) = some cs.size)
  (h : wpList P ops Q rest (a.put o.dst (.agg cs)) W) : wpList P ops Q (o :: rest) a W := wpList_own_loadg (L1 := [x0, x1, x2]) hO hw x ho hx d hu hd hi h
theorem own_row3 {x0 x1 x2 : Bk} {L : List Bk} {g : Nat} {t : TypeId} {old : Array Value} (cells : Array Value) (hO : Own w W (x0 :: x1 :: x2 :: (g, t, old) :: L)) (hgd : o.guard = none) (x y : Operand) (ho : o.op = .store t x y) (hx : a.eval x = .pointer (some ⟨g, 0, none⟩)) (hy : a.eval y = .agg cells)
  (hi : (P.info? t).map (·.size) = some cells.size) (hold : old.size = cells.size) (h1 : cells.all (·.oneCell') = true)
  (h : ∀ W' : World, Own w W' (x0 :: x1 :: x2 :: (g, t, cells) :: L) → W'.heap.size = W.heap.size → (∀ k, k ≠ g → W'.heap[k]? = W.heap[k]?) → wpList P ops Q rest (a.put o.dst undef) W') : wpList P ops Q (o :: rest) a W := wpList_own_row (L1 := [x0, x1, x2]) cells hO hgd x y ho hx hy hi hold h1 h
theorem own_cell3 {x0 x1 x2 : Bk} {L : List Bk} {g : Nat} {t : TypeId} {old : Array Value} (i : Nat) (u : Value) (hO : Own w W (x0 :: x1 :: x2 :: (g, t, old) :: L)) (hgd : o.guard = none) (ty : TypeId) (x y : Operand) (ho : o.op = .store ty x y) (hx : a.eval x = .pointer (some ⟨g, i, none⟩)) (hy : a.eval y = u)
  (hi : (P.info? ty).map (·.size) = some 1) (hil : i < old.size) (h1 : u.oneCell' = true)
  (h : ∀ W' : World, Own w W' (x0 :: x1 :: x2 :: (g, t, old.setIfInBounds i u) :: L) → W'.heap.size = W.heap.size → (∀ k, k ≠ g → W'.heap[k]? = W.heap[k]?) → wpList P ops Q rest (a.put o.dst undef) W') : wpList P ops Q (o :: rest) a W := wpList_own_cell (L1 := [x0, x1, x2]) i u hO hgd ty x y ho hx hy hi hil h1 h
theorem Own.b3 {x0 x1 x2 : Bk} {L : List Bk} {g : Nat} {t : TypeId} {cs : Array Value} (hO : Own w W (x0 :: x1 :: x2 :: (g, t, cs) :: L)) : Blk W g t cs := Own.at_ (L1 := [x0, x1, x2]) hO
theorem own_loadg4 {x0 x1 x2 x3 : Bk} {L : List Bk} {g : Nat} {t : TypeId} {cs : Array Value} (hO : Own w W (x0 :: x1 :: x2 :: x3 :: (g, t, cs) :: L)) (hw : Region.wanted o (yielded ops a.tmps) = true) (x : Operand) (ho : o.op = .load t x) (hx : a.eval x = .pointer (some ⟨g, 0, none⟩)) (d : TypeDesc)
  (hu : P.underlying t = some d) (hd : (match d with | .struct _ | .array _ _ => true | _ => false) = true) (hi : (P.info? t).map (·.size) = some cs.size)
  (h : wpList P ops Q rest (a.put o.dst (.agg cs)) W) : wpList P ops Q (o :: rest) a W := wpList_own_loadg (L1 := [x0, x1, x2, x3]) hO hw x ho hx d hu hd hi h
theorem own_row4 {x0 x1 x2 x3 : Bk} {L : List Bk} {g : Nat} {t : TypeId} {old : Array Value} (cells : Array Value) (hO : Own w W (x0 :: x1 :: x2 :: x3 :: (g, t, old) :: L)) (hgd : o.guard = none) (x y : Operand) (ho : o.op = .store t x y) (hx : a.eval x = .pointer (some ⟨g, 0, none⟩)) (hy : a.eval y = .agg cells)
  (hi : (P.info? t).map (·.size) = some cells.size) (hold : old.size = cells.size) (h1 : cells.all (·.oneCell') = true)
  (h : ∀ W' : World, Own w W' (x0 :: x1 :: x2 :: x3 :: (g, t, cells) :: L) → W'.heap.size = W.heap.size → (∀ k, k ≠ g → W'.heap[k]? = W.heap[k]?) → wpList P ops Q rest (a.put o.dst undef) W') : wpList P ops Q (o :: rest) a W := wpList_own_row (L1 := [x0, x1, x2, x3]) cells hO hgd x y ho hx hy hi hold h1 h
theorem Own.b4 {x0 x1 x2 x3 : Bk} {L : List Bk} {g : Nat} {t : TypeId} {cs : Array Value} (hO : Own w W (x0 :: x1 :: x2 :: x3 :: (g, t, cs) :: L)) : Blk W g t cs := Own.at_ (L1 := [x0, x1, x2, x3]) hO
end
section
variable {P : Program}
theorem results_cct {fn : Func} {a b c : Tmp} {t1 t2 : TypeId} (h : fn.results = #[.cell a t1, .cell b t2, .tmp c]) (tmps : Array Value) (w : World) (g1 g2 : Nat) (c1 c2 : Array Value) (v : Value) (d1 d2 : TypeDesc)
  (ha : tmps.getD a undef = .pointer (some ⟨g1, 0, none⟩)) (hb : tmps.getD b undef = .pointer (some ⟨g2, 0, none⟩)) (hc : tmps.getD c undef = v) (h1 : Blk w g1 t1 c1) (h2 : Blk w g2 t2 c2)
  (u1 : P.underlying t1 = some d1) (k1 : (match d1 with | .struct _ | .array _ _ => true | _ => false) = true) (i1 : (P.info? t1).map (·.size) = some c1.size)
  (u2 : P.underlying t2 = some d2) (k2 : (match d2 with | .struct _ | .array _ _ => true | _ => false) = true) (i2 : (P.info? t2).map (·.size) = some c2.size) :
  (results fn tmps).run P w = .ok (.tuple #[.agg c1, .agg c2, v]) w := by
 have ha' : tmps[a]?.getD undef = .pointer (some ⟨g1, 0, none⟩) := by simpa using ha
 have hb' : tmps[b]?.getD undef = .pointer (some ⟨g2, 0, none⟩) := by simpa using hb
 have hc' : tmps[c]?.getD undef = v := by simpa using hc
 simp [results, h, ha', hb', hc', asAddr, run_loadVar_row w g1 t1 t1 c1 (0, 0) d1 h1 u1 k1 i1, run_loadVar_row w g2 t2 t2 c2 (0, 0) d2 h2 u2 k2 i2]
end
theorem Own.start3 (w : World) (t1 t2 t3 : TypeId) (c1 c2 c3 : Array Value) : Own w (((w.alloc (.cells c1 t1)).alloc (.cells c2 t2)).alloc (.cells c3 t3)) [(w.heap.size, t1, c1), (w.heap.size + 1, t2, c2), (w.heap.size + 1 + 1, t3, c3)] :=
 (((Own.nil w).alloc t1 c1 _ rfl).alloc t2 c2 _ (by simp)).alloc t3 c3 _ (by simp)
theorem Own.start4 (w : World) (t1 t2 t3 t4 : TypeId) (c1 c2 c3 c4 : Array Value) : Own w ((((w.alloc (.cells c1 t1)).alloc (.cells c2 t2)).alloc (.cells c3 t3)).alloc (.cells c4 t4)) [(w.heap.size, t1, c1), (w.heap.size + 1, t2, c2), (w.heap.size + 1 + 1, t3, c3), (w.heap.size + 1 + 1 + 1, t4, c4)] :=
 (Own.start3 w t1 t2 t3 c1 c2 c3).alloc t4 c4 _ (by simp)
theorem Own.start2 (w : World) (t1 t2 : TypeId) (c1 c2 : Array Value) : Own w ((w.alloc (.cells c1 t1)).alloc (.cells c2 t2)) [(w.heap.size, t1, c1), (w.heap.size + 1, t2, c2)] :=
 ((Own.nil w).alloc t1 c1 _ rfl).alloc t2 c2 _ (by simp)
theorem Own.new2 {w W : World} {x0 x1 : Bk} (h : Own w W [x0, x1]) (t : TypeId) (cs : Array Value) : Own w (W.alloc (.cells cs t)) [x0, x1, (W.heap.size, t, cs)] := h.alloc t cs _ rfl
theorem Own.new3 {w W : World} {x0 x1 x2 : Bk} (h : Own w W [x0, x1, x2]) (t : TypeId) (cs : Array Value) : Own w (W.alloc (.cells cs t)) [x0, x1, x2, (W.heap.size, t, cs)] := h.alloc t cs _ rfl
theorem Own.new4 {w W : World} {x0 x1 x2 x3 : Bk} (h : Own w W [x0, x1, x2, x3]) (t : TypeId) (cs : Array Value) : Own w (W.alloc (.cells cs t)) [x0, x1, x2, x3, (W.heap.size, t, cs)] := h.alloc t cs _ rfl
end Go.Proofs.YtkaggddmhjifjaaGreatDoor
namespace Go.Proofs.YtkaggddmhjifjaaGreatDoor
open Go.RowKit
section
variable {P : Program} {ops : Array Oper} {rest : List Oper} {o : Oper} {a : Act} {w W : World} {Q : Exit → Act → World → Prop}
theorem own_row5 {x0 x1 x2 x3 x4 : Bk} {L : List Bk} {g : Nat} {t : TypeId} {old : Array Value} (cells : Array Value) (hO : Own w W (x0 :: x1 :: x2 :: x3 :: x4 :: (g, t, old) :: L)) (hgd : o.guard = none) (x y : Operand) (ho : o.op = .store t x y) (hx : a.eval x = .pointer (some ⟨g, 0, none⟩)) (hy : a.eval y = .agg cells)
  (hi : (P.info? t).map (·.size) = some cells.size) (hold : old.size = cells.size) (h1 : cells.all (·.oneCell') = true)
  (h : ∀ W' : World, Own w W' (x0 :: x1 :: x2 :: x3 :: x4 :: (g, t, cells) :: L) → W'.heap.size = W.heap.size → (∀ k, k ≠ g → W'.heap[k]? = W.heap[k]?) → wpList P ops Q rest (a.put o.dst undef) W') : wpList P ops Q (o :: rest) a W := wpList_own_row (L1 := [x0, x1, x2, x3, x4]) cells hO hgd x y ho hx hy hi hold h1 h
theorem own_loadg5 {x0 x1 x2 x3 x4 : Bk} {L : List Bk} {g : Nat} {t : TypeId} {cs : Array Value} (hO : Own w W (x0 :: x1 :: x2 :: x3 :: x4 :: (g, t, cs) :: L)) (hw : Region.wanted o (yielded ops a.tmps) = true) (x : Operand) (ho : o.op = .load t x) (hx : a.eval x = .pointer (some ⟨g, 0, none⟩)) (d : TypeDesc)
  (hu : P.underlying t = some d) (hd : (match d with | .struct _ | .array _ _ => true | _ => false) = true) (hi : (P.info? t).map (·.size) = some cs.size)
  (h : wpList P ops Q rest (a.put o.dst (.agg cs)) W) : wpList P ops Q (o :: rest) a W := wpList_own_loadg (L1 := [x0, x1, x2, x3, x4]) hO hw x ho hx d hu hd hi h
theorem Own.b5 {x0 x1 x2 x3 x4 : Bk} {L : List Bk} {g : Nat} {t : TypeId} {cs : Array Value} (hO : Own w W (x0 :: x1 :: x2 :: x3 :: x4 :: (g, t, cs) :: L)) : Blk W g t cs := Own.at_ (L1 := [x0, x1, x2, x3, x4]) hO
theorem Own.b6 {x0 x1 x2 x3 x4 x5 : Bk} {L : List Bk} {g : Nat} {t : TypeId} {cs : Array Value} (hO : Own w W (x0 :: x1 :: x2 :: x3 :: x4 :: x5 :: (g, t, cs) :: L)) : Blk W g t cs := Own.at_ (L1 := [x0, x1, x2, x3, x4, x5]) hO
theorem Own.b7 {x0 x1 x2 x3 x4 x5 x6 : Bk} {L : List Bk} {g : Nat} {t : TypeId} {cs : Array Value} (hO : Own w W (x0 :: x1 :: x2 :: x3 :: x4 :: x5 :: x6 :: (g, t, cs) :: L)) : Blk W g t cs := Own.at_ (L1 := [x0, x1, x2, x3, x4, x5, x6]) hO
end
theorem Own.start5 (w : World) (t1 t2 t3 t4 t5 : TypeId) (c1 c2 c3 c4 c5 : Array Value) : Own w (((((w.alloc (.cells c1 t1)).alloc (.cells c2 t2)).alloc (.cells c3 t3)).alloc (.cells c4 t4)).alloc (.cells c5 t5)) [(w.heap.size, t1, c1), (w.heap.size + 1, t2, c2), (w.heap.size + 1 + 1, t3, c3), (w.heap.size + 1 + 1 + 1, t4, c4), (w.heap.size + 1 + 1 + 1 + 1, t5, c5)] :=
 (Own.start4 w t1 t2 t3 t4 c1 c2 c3 c4).alloc t5 c5 _ (by simp)
end Go.Proofs.YtkaggddmhjifjaaGreatDoor
