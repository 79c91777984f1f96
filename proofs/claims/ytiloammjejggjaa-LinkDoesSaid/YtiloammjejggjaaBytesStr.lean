/- Bytes and strings: a slice of bytes made a string; two strings held against each other. -/
import Derived.Test.YtiloammjejggjaaChecked
import Derived.Laws.BytesArg
import Derived.Laws.IdiomStrings
import Derived.Laws.Strings
import Derived.Test.YtiloammjejggjaaGround
namespace Go.Proofs.Ytiloammjejggjaa
open Go.RowKit

def strOf (bs : List UInt8) : ByteArray := ⟨bs.toArray⟩
@[go_sem] theorem strOf_toList (a : List UInt8) : (strOf a).toList = a := by simp [strOf]
theorem run_bytes_string {w : World} {A : Option Addr} {c : Nat} {bs : List UInt8} (h : Bytes w A c bs) : (convert 33 9 (.slice A bs.length c)).run Try.prog w = .ok (.string (strOf bs)) w := by
  cases A with
  | none =>
    have h0 : bs = [] := by
      cases bs with
      | nil => rfl
      | cons x xs => obtain ⟨b, off, e, _⟩ := h.at_ (k := 0) (by simp); cases e
    subst h0
    exact run_convert_bytes_nil w 33 5 Try.underlying33 Try.underlying5 _ _ 9 Try.underlying9
  | some a =>
    refine run_convert_bytes_back (P := Try.prog) w 33 9 5 a c bs Try.underlying33 Try.underlying5 Try.underlying9 (fun j hj => ?_)
    obtain ⟨b, off, e, _, hc⟩ := h.at_ hj
    injection e with e
    subst e
    rw [Addr.add_lit, hc]
    unfold q8 nth
    rw [List.getD_eq_getElem?_getD, List.getElem?_eq_getElem hj]
    rfl
/-- A slice of bytes made a string in a region that draws its order. -/
theorem quiet_bytes_string {w : World} {K : Act → Prop} {a : Act} {o : Oper} (x : Operand) (ho : o.op = .convert 33 9 x) (A : Option Addr) (n c : Nat) (bs : List UInt8) (hx : a.eval x = .slice A n c) (hn : n = bs.length) (hB : Bytes w A c bs)
    (hk : K (a.put o.dst (.string (strOf bs)))) : o.quiet Try.prog a (fun w' => ∃ s : Kin w, w' = s.W) K := by
  subst hn
  refine ⟨.string (strOf bs), ?_, hk⟩
  rintro _ ⟨s, rfl⟩
  have h := run_bytes_string (hB.below s.below)
  unfold Oper.quietAt execOp
  simp only [ho, hx, Sem.run_bind, Sem.run_pure, Result.andThen_ok, h]
  exact ⟨rfl, rfl⟩
end Go.Proofs.Ytiloammjejggjaa
