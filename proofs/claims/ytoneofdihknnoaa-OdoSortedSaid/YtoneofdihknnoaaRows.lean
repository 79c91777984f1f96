/-
  No cell of these rows narrows 'for every input' (looked for: loops, veiled, ifaces, maps, wideKeys, modest, calm, conditions, laid).
  DERIVED. THE GIVEN ROWS OF THIS SEAT. 6 by the template 'for every input the law returns true; each argument reads behind the call as it read before'; 0 by the template 'total and deterministic' (their statements: YtoneofdihknnoaaTotals.lean).
  GIVEN WITH THE SEED: the statements are not yours to turn. If you find one false, say at which input.
  Laid BY PROGRAM, IN A SANDBOX (cutbox-rows.mjs): the forced cells as the released guide's own fill.sh prints them over the translation d912cb10adcde035… (all of the seat's roots in one cut). By AI agents, Wed Nov 11 2026. No macro, syntax, notation, axiom, sorry.
-/
import Derived.Test.YtoneofdihknnoaaChecked
import GoSem.Claim
import GoSem.ClaimJoined
import GoSem.ClaimMapViews
import Derived.JoinedTies
import Derived.KernelRfl
namespace Go.Proofs.Ytoneofdihknnoaa
/- THE CELL 'sum', in the pinned program and in every row, IS THE sha256 OF THE DUMP (.gsa) THAT YtoneofdihknnoaaProg.lean LOADS. Nothing in Lean hashes anything: it is a label: what it is worth is what the hold of that sum in a sandbox is worth. -/
noncomputable def Try.pinned : Pinned := { name := "ytoneofdihknnoaa", sum := "d912cb10adcde0354e3244213c2d4dea52aa8e6078fcff26c16825bc1fb00131", checked := Try.checked }
namespace Rows
def none {H : Type} : Left H := { results := [], args := [] }

/-- 'linesidelaw04.OdoWholes': WHATEVER THE INPUT: true; the input reads as it did. -/
def odoWholesSpec : ChangeSpec := { name := "odoWholes", fn := fun _ => fun
  | [d] => { results := [.lit (.bool true)], args := [d] }
  | _ => none }
def odoWholesRow : OpenClaim := { program := "ytoneofdihknnoaa", sum := "d912cb10adcde0354e3244213c2d4dea52aa8e6078fcff26c16825bc1fb00131", func := "lineside/linesidelaw04.OdoWholes", spec := "odoWholes", inPlace := ["math.archFloor", "math.Float64bits", "math.Float64frombits", "math.archTrunc", "math.archCeil"], unfollowed := true, recurses := true, apart := false }
def OdoWholesSaid : Prop := odoWholesRow.holds Try.pinned (OpenSpec.ofChange odoWholesSpec)

/-- ITS FALSE NEIGHBOUR: 'it returns false'. Refute it at one input. -/
def odoWholesWrong : ChangeSpec := { name := "odoWholes", fn := fun _ => fun
  | [d] => { results := [.lit (.bool false)], args := [d] }
  | _ => none }
def OdoWholesWrongFalsely : Prop := odoWholesRow.holds Try.pinned (OpenSpec.ofChange odoWholesWrong)

/-- 'linesidelaw04.OdoBetweens': WHATEVER THE INPUT: true; the input reads as it did. -/
def odoBetweensSpec : ChangeSpec := { name := "odoBetweens", fn := fun _ => fun
  | [d1, d2] => { results := [.lit (.bool true)], args := [d1, d2] }
  | _ => none }
def odoBetweensRow : OpenClaim := { program := "ytoneofdihknnoaa", sum := "d912cb10adcde0354e3244213c2d4dea52aa8e6078fcff26c16825bc1fb00131", func := "lineside/linesidelaw04.OdoBetweens", spec := "odoBetweens", inPlace := ["math.archFloor", "math.Float64bits", "math.Float64frombits", "math.archTrunc", "math.archCeil"], unfollowed := true, recurses := true, apart := false }
def OdoBetweensSaid : Prop := odoBetweensRow.holds Try.pinned (OpenSpec.ofChange odoBetweensSpec)

/-- ITS FALSE NEIGHBOUR: 'it returns false'. Refute it at one input. -/
def odoBetweensWrong : ChangeSpec := { name := "odoBetweens", fn := fun _ => fun
  | [d1, d2] => { results := [.lit (.bool false)], args := [d1, d2] }
  | _ => none }
def OdoBetweensWrongFalsely : Prop := odoBetweensRow.holds Try.pinned (OpenSpec.ofChange odoBetweensWrong)

/-- 'linesidelaw04.OdoHolds': WHATEVER THE INPUT: true; the input reads as it did. -/
def odoHoldsSpec : ChangeSpec := { name := "odoHolds", fn := fun _ => fun
  | [d1, d2, d3] => { results := [.lit (.bool true)], args := [d1, d2, d3] }
  | _ => none }
def odoHoldsRow : OpenClaim := { program := "ytoneofdihknnoaa", sum := "d912cb10adcde0354e3244213c2d4dea52aa8e6078fcff26c16825bc1fb00131", func := "lineside/linesidelaw04.OdoHolds", spec := "odoHolds", inPlace := ["math.archFloor", "math.Float64bits", "math.Float64frombits", "math.archTrunc", "math.archCeil"], unfollowed := true, recurses := true, apart := false }
def OdoHoldsSaid : Prop := odoHoldsRow.holds Try.pinned (OpenSpec.ofChange odoHoldsSpec)

/-- ITS FALSE NEIGHBOUR: 'it returns false'. Refute it at one input. -/
def odoHoldsWrong : ChangeSpec := { name := "odoHolds", fn := fun _ => fun
  | [d1, d2, d3] => { results := [.lit (.bool false)], args := [d1, d2, d3] }
  | _ => none }
def OdoHoldsWrongFalsely : Prop := odoHoldsRow.holds Try.pinned (OpenSpec.ofChange odoHoldsWrong)

/-- 'linesidelaw04.OdoOrders': WHATEVER THE INPUT: true; the input reads as it did. -/
def odoOrdersSpec : ChangeSpec := { name := "odoOrders", fn := fun _ => fun
  | [d1, d2] => { results := [.lit (.bool true)], args := [d1, d2] }
  | _ => none }
def odoOrdersRow : OpenClaim := { program := "ytoneofdihknnoaa", sum := "d912cb10adcde0354e3244213c2d4dea52aa8e6078fcff26c16825bc1fb00131", func := "lineside/linesidelaw04.OdoOrders", spec := "odoOrders", inPlace := ["math.archFloor", "math.Float64bits", "math.Float64frombits", "math.archTrunc", "math.archCeil"], unfollowed := true, recurses := true, apart := false }
def OdoOrdersSaid : Prop := odoOrdersRow.holds Try.pinned (OpenSpec.ofChange odoOrdersSpec)

/-- ITS FALSE NEIGHBOUR: 'it returns false'. Refute it at one input. -/
def odoOrdersWrong : ChangeSpec := { name := "odoOrders", fn := fun _ => fun
  | [d1, d2] => { results := [.lit (.bool false)], args := [d1, d2] }
  | _ => none }
def OdoOrdersWrongFalsely : Prop := odoOrdersRow.holds Try.pinned (OpenSpec.ofChange odoOrdersWrong)

/-- 'linesidelaw04.OdoTotal': WHATEVER THE INPUT: true; the input reads as it did. -/
def odoTotalSpec : ChangeSpec := { name := "odoTotal", fn := fun _ => fun
  | [d1, d2, d3] => { results := [.lit (.bool true)], args := [d1, d2, d3] }
  | _ => none }
def odoTotalRow : OpenClaim := { program := "ytoneofdihknnoaa", sum := "d912cb10adcde0354e3244213c2d4dea52aa8e6078fcff26c16825bc1fb00131", func := "lineside/linesidelaw04.OdoTotal", spec := "odoTotal", inPlace := ["math.archFloor", "math.Float64bits", "math.Float64frombits", "math.archTrunc", "math.archCeil"], unfollowed := true, recurses := true, apart := false }
def OdoTotalSaid : Prop := odoTotalRow.holds Try.pinned (OpenSpec.ofChange odoTotalSpec)

/-- ITS FALSE NEIGHBOUR: 'it returns false'. Refute it at one input. -/
def odoTotalWrong : ChangeSpec := { name := "odoTotal", fn := fun _ => fun
  | [d1, d2, d3] => { results := [.lit (.bool false)], args := [d1, d2, d3] }
  | _ => none }
def OdoTotalWrongFalsely : Prop := odoTotalRow.holds Try.pinned (OpenSpec.ofChange odoTotalWrong)

/-- 'linesidelaw04.OdoSorted': WHATEVER THE INPUT: true; the input reads as it did. -/
def odoSortedSpec : ChangeSpec := { name := "odoSorted", fn := fun _ => fun
  | [d1, d2] => { results := [.lit (.bool true)], args := [d1, d2] }
  | _ => none }
def odoSortedRow : OpenClaim := { program := "ytoneofdihknnoaa", sum := "d912cb10adcde0354e3244213c2d4dea52aa8e6078fcff26c16825bc1fb00131", func := "lineside/linesidelaw04.OdoSorted", spec := "odoSorted", inPlace := ["math.archFloor", "math.Float64bits", "math.Float64frombits", "math.archTrunc", "math.archCeil"], unfollowed := true, recurses := true, apart := false }
def OdoSortedSaid : Prop := odoSortedRow.holds Try.pinned (OpenSpec.ofChange odoSortedSpec)

/-- ITS FALSE NEIGHBOUR: 'it returns false'. Refute it at one input. -/
def odoSortedWrong : ChangeSpec := { name := "odoSorted", fn := fun _ => fun
  | [d1, d2] => { results := [.lit (.bool false)], args := [d1, d2] }
  | _ => none }
def OdoSortedWrongFalsely : Prop := odoSortedRow.holds Try.pinned (OpenSpec.ofChange odoSortedWrong)

/- THE SECOND FORM. 'bulk': how many values and letters a reading holds, each counted each time it is reached (what is shared counts as often as it is met; a slice's spare places count too). A statement '..UptoSaid' is the law's where the arguments, and the package variables that the reading takes, are together of bulk at most 1048576: NARROWER than '..Said'. Prove '..Said' where nothing that the law and all that it calls make is longer than what came in: it says more and counts as full. Else prove '..UptoSaid'. A law counts once. -/
mutual
def uptoBulk {H : Type} : DataW H → Nat
  | .lit (.string bytes) => bytes.length + 1
  | .lit _ => 1
  | .nil => 1
  | .ptr d => uptoBulk d + 1
  | .slice elems spare => uptoBulkAll elems + uptoBulkAll spare + 1
  | .agg parts => uptoBulkAll parts + 1
  | .iface _ d => uptoBulk d + 1
  | .map entries => uptoBulkEntries entries + 1
  | .held _ => 1
def uptoBulkAll {H : Type} : List (DataW H) → Nat
  | [] => 0
  | d :: r => uptoBulk d + uptoBulkAll r
def uptoBulkEntries {H : Type} : List (Lit × DataW H) → Nat
  | [] => 0
  | x :: r => uptoBulkEntry x + uptoBulkEntries r
def uptoBulkEntry {H : Type} : Lit × DataW H → Nat
  | (.string bytes, d) => bytes.length + uptoBulk d + 1
  | (_, d) => uptoBulk d + 1
 end
def uptoSmall : (H : Type) → List (DataW H) → Bool := fun _ ds => decide (uptoBulkAll ds ≤ 1048576)
def OpenSpec.upto (s : _root_.Go.ChangeSpec) : _root_.Go.OpenSpec := { _root_.Go.OpenSpec.ofChange s with cond := some uptoSmall }

/-- 'linesidelaw04.OdoWholes', WHERE WHAT IT READS IS OF BULK AT MOST 1048576: true; the input reads as it did. -/
def odoWholesUptoRow : OpenClaim := { program := "ytoneofdihknnoaa", sum := "d912cb10adcde0354e3244213c2d4dea52aa8e6078fcff26c16825bc1fb00131", func := "lineside/linesidelaw04.OdoWholes", spec := "odoWholes", inPlace := ["math.archFloor", "math.Float64bits", "math.Float64frombits", "math.archTrunc", "math.archCeil"], unfollowed := true, recurses := true, apart := false, narrowed := true }
def OdoWholesUptoSaid : Prop := odoWholesUptoRow.holds Try.pinned (OpenSpec.upto odoWholesSpec)

/-- 'linesidelaw04.OdoBetweens', WHERE WHAT IT READS IS OF BULK AT MOST 1048576: true; the input reads as it did. -/
def odoBetweensUptoRow : OpenClaim := { program := "ytoneofdihknnoaa", sum := "d912cb10adcde0354e3244213c2d4dea52aa8e6078fcff26c16825bc1fb00131", func := "lineside/linesidelaw04.OdoBetweens", spec := "odoBetweens", inPlace := ["math.archFloor", "math.Float64bits", "math.Float64frombits", "math.archTrunc", "math.archCeil"], unfollowed := true, recurses := true, apart := false, narrowed := true }
def OdoBetweensUptoSaid : Prop := odoBetweensUptoRow.holds Try.pinned (OpenSpec.upto odoBetweensSpec)

/-- 'linesidelaw04.OdoHolds', WHERE WHAT IT READS IS OF BULK AT MOST 1048576: true; the input reads as it did. -/
def odoHoldsUptoRow : OpenClaim := { program := "ytoneofdihknnoaa", sum := "d912cb10adcde0354e3244213c2d4dea52aa8e6078fcff26c16825bc1fb00131", func := "lineside/linesidelaw04.OdoHolds", spec := "odoHolds", inPlace := ["math.archFloor", "math.Float64bits", "math.Float64frombits", "math.archTrunc", "math.archCeil"], unfollowed := true, recurses := true, apart := false, narrowed := true }
def OdoHoldsUptoSaid : Prop := odoHoldsUptoRow.holds Try.pinned (OpenSpec.upto odoHoldsSpec)

/-- 'linesidelaw04.OdoOrders', WHERE WHAT IT READS IS OF BULK AT MOST 1048576: true; the input reads as it did. -/
def odoOrdersUptoRow : OpenClaim := { program := "ytoneofdihknnoaa", sum := "d912cb10adcde0354e3244213c2d4dea52aa8e6078fcff26c16825bc1fb00131", func := "lineside/linesidelaw04.OdoOrders", spec := "odoOrders", inPlace := ["math.archFloor", "math.Float64bits", "math.Float64frombits", "math.archTrunc", "math.archCeil"], unfollowed := true, recurses := true, apart := false, narrowed := true }
def OdoOrdersUptoSaid : Prop := odoOrdersUptoRow.holds Try.pinned (OpenSpec.upto odoOrdersSpec)

/-- 'linesidelaw04.OdoTotal', WHERE WHAT IT READS IS OF BULK AT MOST 1048576: true; the input reads as it did. -/
def odoTotalUptoRow : OpenClaim := { program := "ytoneofdihknnoaa", sum := "d912cb10adcde0354e3244213c2d4dea52aa8e6078fcff26c16825bc1fb00131", func := "lineside/linesidelaw04.OdoTotal", spec := "odoTotal", inPlace := ["math.archFloor", "math.Float64bits", "math.Float64frombits", "math.archTrunc", "math.archCeil"], unfollowed := true, recurses := true, apart := false, narrowed := true }
def OdoTotalUptoSaid : Prop := odoTotalUptoRow.holds Try.pinned (OpenSpec.upto odoTotalSpec)

/-- 'linesidelaw04.OdoSorted', WHERE WHAT IT READS IS OF BULK AT MOST 1048576: true; the input reads as it did. -/
def odoSortedUptoRow : OpenClaim := { program := "ytoneofdihknnoaa", sum := "d912cb10adcde0354e3244213c2d4dea52aa8e6078fcff26c16825bc1fb00131", func := "lineside/linesidelaw04.OdoSorted", spec := "odoSorted", inPlace := ["math.archFloor", "math.Float64bits", "math.Float64frombits", "math.archTrunc", "math.archCeil"], unfollowed := true, recurses := true, apart := false, narrowed := true }
def OdoSortedUptoSaid : Prop := odoSortedUptoRow.holds Try.pinned (OpenSpec.upto odoSortedSpec)

end Rows
end Go.Proofs.Ytoneofdihknnoaa
