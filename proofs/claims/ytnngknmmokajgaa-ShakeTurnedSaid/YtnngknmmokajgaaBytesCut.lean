/- Bytes that are cut out of bytes; the address of the cut is a word of its own, so that no walk splits on whether room is left behind it. -/
import Derived.Test.YtnngknmmokajgaaBytesOwn
namespace Go.Proofs.Ytnngknmmokajgaa
open Go.RowKit

/-- Where the bytes from i on lie. -/
def cutA (A : Option Addr) (i c : Nat) : Option Addr := if c = i then A else A.map (·.add i)
theorem cutA_zero (A : Option Addr) (c : Nat) : cutA A 0 c = A := by
  unfold cutA
  split
  · rfl
  · cases A with
    | none => rfl
    | some a => simp [Addr.add]
theorem Bytes.cutA {w : World} {A : Option Addr} {c : Nat} {bs : List UInt8} (h : Bytes w A c bs) (i n : Nat) (hn : i + n ≤ bs.length) :
    Bytes w (cutA A i c) (c - i) ((bs.drop i).take n) := by
  have hl : ((bs.drop i).take n).length = n := by simp; omega
  have hcap := h.cap
  refine ⟨fun h0 => ?_, by rw [hl]; omega, Nat.le_trans (Nat.sub_le _ _) h.max⟩
  rw [cellsOf_length, hl] at h0
  have h3 : 0 < (cellsOf bs).length := by rw [cellsOf_length]; omega
  obtain ⟨b, off, rfl, hlt, hc⟩ := h.row h3
  have e : Proofs.Ytnngknmmokajgaa.cutA (some ⟨b, off, none⟩) i c = some ⟨b, off + i, none⟩ := by
    unfold Proofs.Ytnngknmmokajgaa.cutA
    rw [if_neg (by omega)]
    simp [Addr.add]
  refine ⟨b, off + i, e, hlt, fun j u hu => ?_⟩
  have hj : j < n := by
    rcases Nat.lt_or_ge j n with h | h
    · exact h
    · rw [List.getElem?_eq_none (by rw [cellsOf_length, hl]; exact h)] at hu; cases hu
  have := hc (i + j) u (by
    rw [← hu]
    simp only [cellsOf, List.getElem?_map]
    rw [List.getElem?_take_of_lt hj, List.getElem?_drop])
  rwa [← Nat.add_assoc] at this
theorem Bytes.cut {w : World} {b off c : Nat} {bs : List UInt8} (h : Bytes w (some ⟨b, off, none⟩) c bs) (i n : Nat) (hn : i + n ≤ bs.length) (h0 : 0 < n) : Bytes w (some ⟨b, off + i, none⟩) (c - i) ((bs.drop i).take n) := by
  have := h.cutA i n hn
  have hcap := h.cap
  unfold Proofs.Ytnngknmmokajgaa.cutA at this
  rw [if_neg (by omega)] at this
  by_cases hi : i = 0
  · subst hi
    simpa [Addr.add] using this
  · simpa [Addr.add, hi] using this
theorem Bytes.cutTo {w : World} {A : Option Addr} {c : Nat} {bs : List UInt8} (h : Bytes w A c bs) (n : Nat) (hn : n ≤ bs.length) : Bytes w A c (bs.take n) := by
  have := h.cutA 0 n (by omega)
  rwa [cutA_zero, List.drop_zero, Nat.sub_zero] at this
theorem Bytes.cutFrom {w : World} {A : Option Addr} {c : Nat} {bs : List UInt8} (h : Bytes w A c bs) (i : Nat) (hi : i ≤ bs.length) : Bytes w (Proofs.Ytnngknmmokajgaa.cutA A i c) (c - i) (bs.drop i) := by
  have := h.cutA i (bs.length - i) (by omega)
  rwa [List.take_of_length_le (by simp)] at this
section
variable (w : World) (a : Option Addr) (len cap : Nat)
theorem u8_of : Try.prog.underlying 27 = some (.slice (Try.prog.elem 27)) := by kernel_rfl
theorem u8_size : (sizeOf (Try.prog.elem 27)).run Try.prog w = .ok 1 w := by
  have h : (Try.prog.info? (Try.prog.elem 27)).map (·.size) = some 1 := by kernel_rfl
  cases hq : Try.prog.info? (Try.prog.elem 27) with
  | none => rw [hq] at h; cases h
  | some j =>
    have hj : j.size = 1 := by simpa [hq] using h
    simp [sizeOf, typeInfo, hq, hj]
theorem slice_bytes_l (kl : IntKind) (l : Int) (h0 : 0 ≤ l) (h1 : l ≤ len) :
    (Instr.slice 27 (.slice a len cap) (some (.int kl l)) none none).run Try.prog w = .ok (.slice (cutA a l.toNat cap) (len - l.toNat) (cap - l.toNat)) w := by
  rw [run_slice_l w 27 a len cap u8_of kl l h0 h1, u8_size]
  simp [Result.andThen, sliced, cutA]
theorem slice_bytes_lh (kl kh : IntKind) (l h : Int) (h0 : 0 ≤ l) (h1 : l ≤ h) (h2 : h ≤ cap) :
    (Instr.slice 27 (.slice a len cap) (some (.int kl l)) (some (.int kh h)) none).run Try.prog w = .ok (.slice (cutA a l.toNat cap) (h.toNat - l.toNat) (cap - l.toNat)) w := by
  rw [run_slice_lh w 27 a len cap u8_of kl kh l h h0 h1 h2, u8_size]
  simp [Result.andThen, sliced, cutA]
theorem slice_bytes_h (kh : IntKind) (h : Int) (h0 : 0 ≤ h) (h2 : h ≤ cap) :
    (Instr.slice 27 (.slice a len cap) none (some (.int kh h)) none).run Try.prog w = .ok (.slice a h.toNat cap) w := by
  rw [run_slice_h w 27 a len cap u8_of kh h h0 h2, u8_size]
  have := cutA_zero a cap
  unfold cutA at this
  simp [Result.andThen, sliced, this]
end
end Go.Proofs.Ytnngknmmokajgaa
