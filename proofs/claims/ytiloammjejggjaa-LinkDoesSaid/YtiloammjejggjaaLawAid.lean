/- What every law's frame uses: arguments opened to the walk's own words. -/
import Derived.Test.YtiloammjejggjaaRows
import Derived.Test.YtiloammjejggjaaGround
import Derived.ProofKit
import Derived.OpenShut
import Derived.Lib.SmallJoins
import Derived.ShutString
import Derived.ChangeOld
namespace Go.Proofs.Ytiloammjejggjaa
open Go.ChangeShapes Go.WideShapes Go.ChangeAt Go.RowKit
open Go.ChangeMaps (open_string shut_string)

theorem own : ownKnob Try.prog.godebug = none := by kernel_rfl
theorem laidOut : laidOutB Try.prog = true := by kernel_rfl
section
variable {H : Type} {enc : TypeId × Value → H} {w : World} {base : Nat} {spare : Nat → Bool} {held : Bool}
theorem trod_q32 {fuel : Nat} {v : Value} {x : DataW H × List MemPlace} (h : DataW.trod enc Try.prog w base spare held fuel 79 [v] = some x) : ∃ a : BitVec 32, v = q32 a := by
  obtain ⟨n, e, _, hw⟩ := DataW.trod_int Try.underlying79 h
  obtain rfl : v = .int .u32 n := by simpa using e
  have hb := bounds_u32 hw
  exact ⟨_, q32_ofInt n hb.1 (by omega)⟩
theorem open_q32 {r : Reach} {b0 : Nat} {v : Value} {d : DataW H} {p : List MemPlace} (hv : Value.okWide Try.prog w r b0 79 v) (h : DataW.Trod enc Try.prog w base spare held 79 v d p) : ∃ a : BitVec 32, v = q32 a := by
  obtain ⟨n, rfl, _, _, hw⟩ := open_int Try.underlying79 hv h
  have hb := bounds_u32 hw
  exact ⟨_, q32_ofInt n hb.1 (by omega)⟩
end
end Go.Proofs.Ytiloammjejggjaa
