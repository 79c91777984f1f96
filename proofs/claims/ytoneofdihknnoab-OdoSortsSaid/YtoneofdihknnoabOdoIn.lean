/- What every law's frame of chapter 04 uses: a number with a floating point that came in, opened. -/
import Derived.Test.YtoneofdihknnoabRows
import Derived.Test.YtoneofdihknnoabAwake4
import Derived.Laws.Cover2
import Derived.ProofKit
import Derived.OpenShut
import Derived.Lib.SmallJoins
import Derived.ShutString
import Derived.ChangeOld
set_option linter.unusedSimpArgs false
set_option linter.unusedVariables false
namespace Go.Proofs.Ytoneofdihknnoab
open Go.ChangeShapes Go.WideShapes Go.ChangeAt Go.RowKit

theorem own : ownKnob Try.prog.godebug = none := by kernel_rfl
theorem laidOut : laidOutB Try.prog = true := by kernel_rfl
section
variable {H : Type} {enc : TypeId × Value → H} {w : World} {base : Nat} {spare : Nat → Bool} {held : Bool}
theorem open_f64 {r : Reach} {b0 : Nat} {v : Value} {d : DataW H} {p : List MemPlace} (hv : Value.okWide Try.prog w r b0 26 v) (h : DataW.Trod enc Try.prog w base spare held 26 v d p) : ∃ x, v = .float .f64 x ∧ x < 2 ^ 64 := by
  obtain ⟨x, rfl, _, _, hw⟩ := open_float Try.underlying26 hv h
  exact ⟨x, rfl, by simpa [Lit.wf] using hw⟩
end
end Go.Proofs.Ytoneofdihknnoab
