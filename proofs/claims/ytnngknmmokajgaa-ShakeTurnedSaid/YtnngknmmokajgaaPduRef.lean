/- The document's small functions: a number laid in bytes behind others; the number that stands at a place. -/
import Derived.Test.YtnngknmmokajgaaPduBase
import Derived.Test.YtnngknmmokajgaaRef8
set_option linter.unusedSimpArgs false
set_option linter.unusedVariables false
namespace Go.Proofs.Ytnngknmmokajgaa
open Go.RowKit Go.Shelf

def low8 (a : BitVec 64) : BitVec 64 := a % 256#64
def shr8 (a : BitVec 64) (k : Nat) : BitVec 64 := a >>> (8 * k)
@[go_sem] theorem q64_quo_256 (t : TypeId) (a : BitVec 64) : binOp .quo t (q64 a) (.int .u64 256) = pure (q64 (a >>> 8)) := by
  have e : (IntKind.u64.wrap ((a.toNat : Int).tdiv 256)) = ((a >>> 8).toNat : Int) := by
    have := a.isLt
    rw [IntKind.wrap_u64, BitVec.toNat_ushiftRight, Nat.shiftRight_eq_div_pow, Int.tdiv_eq_ediv_of_nonneg (by omega)]
    simp; omega
  show binOp .quo t (.int .u64 _) (.int .u64 _) = _
  rw [binOp_quo]
  unfold Op.intDiv
  simp only [show ¬ ((256 : Int) = 0) by decide, if_false]
  exact congrArg (fun n => (pure (Value.int .u64 n) : Sem Value)) e
@[go_sem] theorem q64_rem_256 (t : TypeId) (a : BitVec 64) : binOp .rem t (q64 a) (.int .u64 256) = pure (q64 (low8 a)) := by
  have e : ((a.toNat : Int).tmod 256) = ((low8 a).toNat : Int) := by
    have := a.isLt
    unfold low8
    rw [BitVec.toNat_umod, Int.tmod_eq_emod_of_nonneg (by omega)]
    simp
  show binOp .rem t (.int .u64 _) (.int .u64 _) = _
  rw [binOp_rem]
  unfold Op.intDiv
  simp only [show ¬ ((256 : Int) = 0) by decide, if_false]
  exact congrArg (fun n => (pure (Value.int .u64 n) : Sem Value)) e
theorem shr8_zero (a : BitVec 64) : shr8 a 0 = a := by simp [shr8]
theorem shr8_succ (a : BitVec 64) (k : Nat) : shr8 a (k + 1) = shr8 a k >>> 8 := by
  unfold shr8
  rw [← BitVec.shiftRight_add]
  rfl
theorem byte_of (a : BitVec 64) (k : Nat) : UInt8.ofBitVec ((low8 (shr8 a k)).setWidth 8) = byteAt a.toNat k := by
  apply UInt8.toNat_inj.1
  rw [byteAt_toNat]
  show ((low8 (shr8 a k)).setWidth 8).toNat = _
  unfold low8 shr8
  rw [BitVec.toNat_setWidth, BitVec.toNat_umod, BitVec.toNat_ushiftRight, Nat.shiftRight_eq_div_pow, Nat.pow_mul]
  simp
theorem one_byte {w : World} {g : Nat} {t : TypeId} {x : UInt8} (h : Blk w g t #[q8 x]) : Bytes w (some ⟨g, 0, none⟩) 1 [x] := ⟨Row.block (cs := #[q8 x]) h, Nat.le_refl _, by decide⟩
set_option maxHeartbeats 2000000 in
theorem put_k (base : Nat) (A : Option Addr) (n c : Nat) (xs : List UInt8) (a : BitVec 64) (many : Nat) (w : World) (hn : n = xs.length) (ho : OwnB w base A c xs) (hbase : base ≤ w.heap.size) (hlen : xs.length + many ≤ 65536) :
    Calls Try.prog 64 #[.slice A n c, q64 a, .int .i64 many] w fun e w' => ∃ A' c', e = .returned (.slice A' (n + many) c') ∧ OwnB w' base A' c' (xs ++ be many a.toNat) ∧ Below base w w' := by
  subst hn
  have hal := a.isLt
  go_enter Try.func64, Try.ntmps64
  go_wp2_with fail
  go_loopw [0, 7] (fun v i wr => ∃ (r : Nat) (pre : List UInt8) (A' : Option Addr) (c' : Nat), r ≤ many ∧ pre.length + r = many ∧ be many a.toNat = pre ++ be r a.toNat ∧ i = .int .i64 ((r : Int) - 1) ∧ v = .slice A' (xs.length + pre.length) c' ∧ OwnB wr base A' c' (xs ++ pre) ∧ Below base w wr) (fun _ i _ => (intOf i + 1).toNat)
  case atStart => exact ⟨many, [], A, c, Nat.le_refl _, by simp, by simp, rfl, by simp, by simpa using ho, Below.refl _ _⟩
  case round =>
    obtain ⟨r, pre, A', c', hr, hpr, hbe, rfl, rfl, hO, hBr⟩ := hrel
    match r, hr, hpr, hbe with
    | 0, _, hpr, hbe =>
      go_wp2_with fail
      go_ret
      refine ⟨A', c', ?_, ?_, hBr⟩
      · have : pre.length = many := by omega
        rw [← this]; rfl
      · rw [hbe]
        simpa [be] using hO
    | r + 1, hr, hpr, hbe =>
      have e1 : (((r + 1 : Nat) : Int) - 1) = r := by omega
      rw [e1]
      clear e1
      go_wp2_with fail
      obtain ⟨wo, rfl⟩ : ∃ wo : World, wo = wr := ⟨_, rfl⟩
      go_loop [8, 9] (fun x i => ∃ k : Nat, k ≤ r ∧ i = .int .i64 k ∧ x = q64 (shr8 a k)) (fun _ i => r - (intOf i).toNat)
      case atStart => exact ⟨0, Nat.zero_le _, rfl, by rw [shr8_zero]⟩
      case round =>
        obtain ⟨k, hk, rfl, rfl⟩ := hrel
        by_cases hlt : k < r
        · have H1 := Lib.hid (shr8_succ a k)
          go_wp2_with fail
          refine ⟨⟨k + 1, by omega, by go_num, by rw [H1.out]⟩, by simp [intOf]; omega⟩
        · obtain rfl : k = r := by omega
          have hb := Lib.hid (byte_of a k)
          have hz := hBr.size
          go_wp2_with (at_builtin; refine wpList_app_bytes rfl (.tmp 24) (.tmp 28) rfl base A' c' (xs ++ pre) (xs.length + pre.length) rfl (by simp) (hO.alloc _) (some ⟨wo.heap.size, 0, none⟩) 1 [byteAt a.toNat k] 1 rfl rfl (by rw [← hb.out]; exact one_byte (Blk.new _ _ _)) (by simp; omega) (by simp; omega) ?_; intro A2 c2 W2 ho2 hgr2 hb2)
          refine ⟨⟨k, pre ++ [byteAt a.toNat k], A2, c2, by omega, by simp; omega, by rw [hbe]; simp [be], by rfl, by simp [Nat.add_assoc], by simpa using ho2, ?_⟩, by simp [intOf]⟩
          exact hBr.trans (((Below.refl _ _).alloc (by omega) _).trans hb2)
theorem num_from (bs : List UInt8) (p j : Nat) (h : p + j < bs.length) : BitVec.ofNat 64 (num ((bs.drop p).take (j + 1))) = BitVec.ofNat 64 (num ((bs.drop p).take j)) * 256#64 + BitVec.ofNat 64 (nth bs (p + j)).toNat := by
  rw [num_step (bs.drop p) j (by simp; omega)]
  have : nth (bs.drop p) j = nth bs (p + j) := by simp [nth, List.getD_eq_getElem?_getD]
  rw [this, BitVec.ofNat_add, BitVec.ofNat_mul]
end Go.Proofs.Ytnngknmmokajgaa
