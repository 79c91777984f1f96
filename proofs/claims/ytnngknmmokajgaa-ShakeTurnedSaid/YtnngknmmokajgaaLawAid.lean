/- What every law's frame uses: arguments opened to the walk's own words. -/
import Derived.Test.YtnngknmmokajgaaRows
import Derived.Test.YtnngknmmokajgaaGround
import Derived.ProofKit
import Derived.OpenShut
import Derived.Lib.SmallJoins
import Derived.ShutString
import Derived.ChangeOld
namespace Go.Proofs.Ytnngknmmokajgaa
open Go.ChangeShapes Go.WideShapes Go.ChangeAt Go.RowKit
open Go.ChangeMaps (open_string shut_string)

theorem own : ownKnob Try.prog.godebug = none := by kernel_rfl
theorem laidOut : laidOutB Try.prog = true := by kernel_rfl
section
variable {H : Type} {enc : TypeId × Value → H} {w : World} {base : Nat} {spare : Nat → Bool} {held : Bool}
theorem trod_q32 {fuel : Nat} {v : Value} {x : DataW H × List MemPlace} (h : DataW.trod enc Try.prog w base spare held fuel 22 [v] = some x) : ∃ a : BitVec 32, v = q32 a := by
  obtain ⟨n, e, _, hw⟩ := DataW.trod_int Try.underlying22 h
  obtain rfl : v = .int .u32 n := by simpa using e
  have hb := bounds_u32 hw
  exact ⟨_, q32_ofInt n hb.1 (by omega)⟩
theorem open_q32 {r : Reach} {b0 : Nat} {v : Value} {d : DataW H} {p : List MemPlace} (hv : Value.okWide Try.prog w r b0 22 v) (h : DataW.Trod enc Try.prog w base spare held 22 v d p) : ∃ a : BitVec 32, v = q32 a := by
  obtain ⟨n, rfl, _, _, hw⟩ := open_int Try.underlying22 hv h
  have hb := bounds_u32 hw
  exact ⟨_, q32_ofInt n hb.1 (by omega)⟩
theorem open_q64 {r : Reach} {b0 : Nat} {v : Value} {d : DataW H} {p : List MemPlace} (hv : Value.okWide Try.prog w r b0 28 v) (h : DataW.Trod enc Try.prog w base spare held 28 v d p) : ∃ a : BitVec 64, v = q64 a := by
  obtain ⟨n, rfl, _, _, hw⟩ := open_int Try.underlying28 hv h
  have hb := bounds_u64 hw
  exact ⟨_, q64_ofInt n hb.1 (by omega)⟩
theorem open_key {r : Reach} {b0 : Nat} {v : Value} {d : DataW H} {p : List MemPlace} (hv : Value.okWide Try.prog w r b0 24 v) (h : DataW.Trod enc Try.prog w base spare held 24 v d p) :
    ∃ k : K4, v = .agg #[q32 k.k0, q32 k.k1, q32 k.k2, q32 k.k3] := by
  obtain ⟨cs, rfl, hsz, _⟩ : ∃ cs, v = .agg cs ∧ cs.size = Try.prog.cellsOf 24 ∧ Row.okWide Try.prog w r b0 24 cs := by
    simp only [Value.okWide, Try.underlying24] at hv
    exact hv
  have hc4 : Try.prog.cellsOf 24 = 4 := by kernel_rfl
  have hc1 : Try.prog.cellsOf 22 = 1 := by kernel_rfl
  obtain ⟨c0, c1, c2, c3, rfl⟩ := Go.Joins.array4 (hsz.trans hc4)
  obtain ⟨fuel, hf⟩ := h
  obtain ⟨xs, m, _, _, _, hlen, hg⟩ := DataW.trod_array Try.underlying24 hf
  rw [hc1] at hg
  match xs, hlen with
  | [y0, y1, y2, y3], _ =>
    obtain ⟨a, rfl⟩ := trod_q32 (x := y0) (by simpa [Value.cells] using hg 0 (by decide))
    obtain ⟨b, rfl⟩ := trod_q32 (x := y1) (by simpa [Value.cells] using hg 1 (by decide))
    obtain ⟨c, rfl⟩ := trod_q32 (x := y2) (by simpa [Value.cells] using hg 2 (by decide))
    obtain ⟨d, rfl⟩ := trod_q32 (x := y3) (by simpa [Value.cells] using hg 3 (by decide))
    exact ⟨⟨a, b, c, d⟩, rfl⟩
end
end Go.Proofs.Ytnngknmmokajgaa
