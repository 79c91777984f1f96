/-
  NARROWER THAN 'FOR EVERY INPUT', by the rows' own cells (each row's printed sentence says how): OnboardTurned: laid · OnboardTwice: laid · OnboardKeeps: laid · OnboardStays: laid.
  DERIVED. THE GIVEN ROWS OF THIS SEAT. 4 by the template 'for every input the law returns true; each argument reads behind the call as it read before'; 0 by the template 'total and deterministic' (their statements: YthnmgjngniciaaaGreatDoorTotals.lean).
  GIVEN WITH THE SEED: the statements are not yours to turn. If you find one false, say at which input.
  Laid BY PROGRAM, IN A SANDBOX (cutbox-rows.mjs): the forced cells as the released guide's own fill.sh prints them over the translation 11d7ecb1d23c0675… (all of the seat's roots in one cut). By AI agents, Wed Nov 11 2026. No macro, syntax, notation, axiom, sorry.
-/
import Derived.Test.YthnmgjngniciaaaGreatDoorChecked
import GoSem.Claim
import GoSem.ClaimJoined
import GoSem.ClaimMapViews
import Derived.JoinedTies
import Derived.KernelRfl
namespace Go.Proofs.YthnmgjngniciaaaGreatDoor
/- THE CELL 'sum', in the pinned program and in every row, IS THE sha256 OF THE DUMP (.gsa) THAT YthnmgjngniciaaaGreatDoorProg.lean LOADS. Nothing in Lean hashes anything: it is a label: what it is worth is what the hold of that sum in a sandbox is worth. -/
noncomputable def Tryz.pinned : Pinned := { name := "ythnmgjngniciaaagreatdoor", sum := "11d7ecb1d23c0675c9a8a332cb766550990e9a3b2f25a15fd98c6315ffeb0958", checked := Tryz.checked }
namespace Rows
def none {H : Type} : Left H := { results := [], args := [] }

/- WHAT THE LISTED PACKAGE-LEVEL VARIABLES READ AS WHEN THE CALL BEGINS. Each datum BY PROGRAM (the guide's laid-datum.mjs) off the statement by which the dump's own 'gosem.cut.vars' lays the variable. In a bare row this is a premise. The card (YthnmgjngniciaaaGreatDoorCards.lean) ties it to the program's text. -/
def laid_lineside_vars_widths {H : Type} : DataW H := .agg [.lit (.int .i64 8), .lit (.int .i64 10), .lit (.int .i64 32), .lit (.int .i64 1), .lit (.int .i64 24), .lit (.int .i64 8), .lit (.int .i64 2), .lit (.int .i64 13), .lit (.int .i64 2), .lit (.int .i64 24), .lit (.int .i64 10), .lit (.int .i64 14), .lit (.int .i64 1), .lit (.int .i64 15), .lit (.int .i64 2), .lit (.int .i64 2), .lit (.int .i64 15), .lit (.int .i64 15), .lit (.int .i64 2), .lit (.int .i64 15), .lit (.int .i64 7), .lit (.int .i64 2), .lit (.int .i64 4), .lit (.int .i64 3), .lit (.int .i64 8), .lit (.int .i64 7), .lit (.int .i64 10), .lit (.int .i64 5), .lit (.int .i64 15), .lit (.int .i64 1), .lit (.int .i64 10), .lit (.int .i64 15), .lit (.int .i64 15), .lit (.int .i64 1), .lit (.int .i64 10), .lit (.int .i64 15), .lit (.int .i64 1), .lit (.int .i64 15), .lit (.int .i64 7), .lit (.int .i64 1), .lit (.int .i64 15), .lit (.int .i64 10), .lit (.int .i64 15), .lit (.int .i64 7), .lit (.int .i64 15), .lit (.int .i64 1), .lit (.int .i64 2), .lit (.int .i64 6), .lit (.int .i64 15), .lit (.int .i64 1), .lit (.int .i64 8), .lit (.int .i64 15), .lit (.int .i64 7), .lit (.int .i64 1), .lit (.int .i64 4), .lit (.int .i64 7), .lit (.int .i64 15), .lit (.int .i64 2), .lit (.int .i64 7), .lit (.int .i64 15), .lit (.int .i64 15), .lit (.int .i64 1), .lit (.int .i64 1), .lit (.int .i64 14), .lit (.int .i64 32), .lit (.int .i64 1), .lit (.int .i64 8), .lit (.int .i64 10), .lit (.int .i64 8), .lit (.int .i64 8), .lit (.int .i64 15), .lit (.int .i64 3), .lit (.int .i64 15), .lit (.int .i64 1), .lit (.int .i64 24), .lit (.int .i64 32), .lit (.int .i64 15), .lit (.int .i64 12), .lit (.int .i64 7), .lit (.int .i64 8), .lit (.int .i64 7), .lit (.int .i64 2), .lit (.int .i64 8), .lit (.int .i64 8), .lit (.int .i64 15), .lit (.int .i64 7), .lit (.int .i64 8), .lit (.int .i64 2), .lit (.int .i64 4), .lit (.int .i64 16), .lit (.int .i64 15), .lit (.int .i64 2), .lit (.int .i64 7), .lit (.int .i64 2), .lit (.int .i64 5), .lit (.int .i64 15)]

/-- 'linesidelaw19.OnboardTurned': WHATEVER THE INPUT: true; the input reads as it did. -/
def onboardTurnedSpec : ChangeSpec := { name := "onboardTurned", fn := fun _ => fun
  | [d1, d2, d3, d4, d5, d6] => { results := [.lit (.bool true)], args := [d1, d2, d3, d4, d5, d6] }
  | _ => none }
def onboardTurnedRow : OpenClaim := { program := "ythnmgjngniciaaagreatdoor", sum := "11d7ecb1d23c0675c9a8a332cb766550990e9a3b2f25a15fd98c6315ffeb0958", func := "lineside/linesidelaw19.OnboardTurned", spec := "onboardTurned", inPlace := ["internal/bytealg.MakeNoZero", "slices.overlaps[int]"], unfollowed := true, recurses := true, named := ["lineside/vars.widths"], plainKeys := false, apart := false, laid := [("lineside/vars.widths", laid_lineside_vars_widths)] }
def OnboardTurnedSaid : Prop := onboardTurnedRow.holds Tryz.pinned (OpenSpec.ofChange onboardTurnedSpec)

/-- ITS FALSE NEIGHBOUR: 'it returns false'. Refute it at one input. -/
def onboardTurnedWrong : ChangeSpec := { name := "onboardTurned", fn := fun _ => fun
  | [d1, d2, d3, d4, d5, d6] => { results := [.lit (.bool false)], args := [d1, d2, d3, d4, d5, d6] }
  | _ => none }
def OnboardTurnedWrongFalsely : Prop := onboardTurnedRow.holds Tryz.pinned (OpenSpec.ofChange onboardTurnedWrong)

/-- 'linesidelaw19.OnboardTwice': WHATEVER THE INPUT: true; the input reads as it did. -/
def onboardTwiceSpec : ChangeSpec := { name := "onboardTwice", fn := fun _ => fun
  | [d1, d2, d3, d4] => { results := [.lit (.bool true)], args := [d1, d2, d3, d4] }
  | _ => none }
def onboardTwiceRow : OpenClaim := { program := "ythnmgjngniciaaagreatdoor", sum := "11d7ecb1d23c0675c9a8a332cb766550990e9a3b2f25a15fd98c6315ffeb0958", func := "lineside/linesidelaw19.OnboardTwice", spec := "onboardTwice", inPlace := ["internal/bytealg.MakeNoZero", "slices.overlaps[int]"], unfollowed := true, recurses := true, named := ["lineside/vars.widths"], plainKeys := false, apart := false, laid := [("lineside/vars.widths", laid_lineside_vars_widths)] }
def OnboardTwiceSaid : Prop := onboardTwiceRow.holds Tryz.pinned (OpenSpec.ofChange onboardTwiceSpec)

/-- ITS FALSE NEIGHBOUR: 'it returns false'. Refute it at one input. -/
def onboardTwiceWrong : ChangeSpec := { name := "onboardTwice", fn := fun _ => fun
  | [d1, d2, d3, d4] => { results := [.lit (.bool false)], args := [d1, d2, d3, d4] }
  | _ => none }
def OnboardTwiceWrongFalsely : Prop := onboardTwiceRow.holds Tryz.pinned (OpenSpec.ofChange onboardTwiceWrong)

/-- 'linesidelaw19.OnboardKeeps': WHATEVER THE INPUT: true; the input reads as it did. -/
def onboardKeepsSpec : ChangeSpec := { name := "onboardKeeps", fn := fun _ => fun
  | [d1, d2, d3, d4] => { results := [.lit (.bool true)], args := [d1, d2, d3, d4] }
  | _ => none }
def onboardKeepsRow : OpenClaim := { program := "ythnmgjngniciaaagreatdoor", sum := "11d7ecb1d23c0675c9a8a332cb766550990e9a3b2f25a15fd98c6315ffeb0958", func := "lineside/linesidelaw19.OnboardKeeps", spec := "onboardKeeps", inPlace := ["internal/bytealg.MakeNoZero", "slices.overlaps[int]"], unfollowed := true, recurses := true, named := ["lineside/vars.widths"], plainKeys := false, apart := false, laid := [("lineside/vars.widths", laid_lineside_vars_widths)] }
def OnboardKeepsSaid : Prop := onboardKeepsRow.holds Tryz.pinned (OpenSpec.ofChange onboardKeepsSpec)

/-- ITS FALSE NEIGHBOUR: 'it returns false'. Refute it at one input. -/
def onboardKeepsWrong : ChangeSpec := { name := "onboardKeeps", fn := fun _ => fun
  | [d1, d2, d3, d4] => { results := [.lit (.bool false)], args := [d1, d2, d3, d4] }
  | _ => none }
def OnboardKeepsWrongFalsely : Prop := onboardKeepsRow.holds Tryz.pinned (OpenSpec.ofChange onboardKeepsWrong)

/-- 'linesidelaw19.OnboardStays': WHATEVER THE INPUT: true; the input reads as it did. -/
def onboardStaysSpec : ChangeSpec := { name := "onboardStays", fn := fun _ => fun
  | [d1, d2, d3] => { results := [.lit (.bool true)], args := [d1, d2, d3] }
  | _ => none }
def onboardStaysRow : OpenClaim := { program := "ythnmgjngniciaaagreatdoor", sum := "11d7ecb1d23c0675c9a8a332cb766550990e9a3b2f25a15fd98c6315ffeb0958", func := "lineside/linesidelaw19.OnboardStays", spec := "onboardStays", inPlace := ["internal/bytealg.MakeNoZero", "slices.overlaps[int]"], unfollowed := true, recurses := true, named := ["lineside/vars.widths"], plainKeys := false, apart := false, laid := [("lineside/vars.widths", laid_lineside_vars_widths)] }
def OnboardStaysSaid : Prop := onboardStaysRow.holds Tryz.pinned (OpenSpec.ofChange onboardStaysSpec)

/-- ITS FALSE NEIGHBOUR: 'it returns false'. Refute it at one input. -/
def onboardStaysWrong : ChangeSpec := { name := "onboardStays", fn := fun _ => fun
  | [d1, d2, d3] => { results := [.lit (.bool false)], args := [d1, d2, d3] }
  | _ => none }
def OnboardStaysWrongFalsely : Prop := onboardStaysRow.holds Tryz.pinned (OpenSpec.ofChange onboardStaysWrong)

/- THE SECOND FORM. 'bulk': how many values and letters a reading holds, each counted each time it is reached (what is shared counts as often as it is met; a slice's spare places count too). A statement '..UptoSaid' is the law's where the arguments, and the package variables that the reading takes, are together of bulk at most 1048576: NARROWER than '..Said'. Prove '..Said' where nothing that the law and all that it calls make is longer than what came in: it says more and counts as full. Else prove '..UptoSaid'. A law counts once. -/
mutual
def uptoBulk {H : Type} : DataW H → Nat
  | .lit (.string bytes) => bytes.length + 1
  | .lit _ => 1
  | .nil => 1
  | .ptr d => uptoBulk d + 1
  | .slice elems spare => uptoBulkAll elems + uptoBulkAll spare + 1
  | .agg parts => uptoBulkAll parts + 1
  | .iface _ d => uptoBulk d + 1
  | .map entries => uptoBulkEntries entries + 1
  | .held _ => 1
def uptoBulkAll {H : Type} : List (DataW H) → Nat
  | [] => 0
  | d :: r => uptoBulk d + uptoBulkAll r
def uptoBulkEntries {H : Type} : List (Lit × DataW H) → Nat
  | [] => 0
  | x :: r => uptoBulkEntry x + uptoBulkEntries r
def uptoBulkEntry {H : Type} : Lit × DataW H → Nat
  | (.string bytes, d) => bytes.length + uptoBulk d + 1
  | (_, d) => uptoBulk d + 1
 end
def uptoSmall : (H : Type) → List (DataW H) → Bool := fun _ ds => decide (uptoBulkAll ds ≤ 1048576)
def OpenSpec.upto (s : _root_.Go.ChangeSpec) : _root_.Go.OpenSpec := { _root_.Go.OpenSpec.ofChange s with cond := some uptoSmall }

/-- 'linesidelaw19.OnboardTurned', WHERE WHAT IT READS IS OF BULK AT MOST 1048576: true; the input reads as it did. -/
def onboardTurnedUptoRow : OpenClaim := { program := "ythnmgjngniciaaagreatdoor", sum := "11d7ecb1d23c0675c9a8a332cb766550990e9a3b2f25a15fd98c6315ffeb0958", func := "lineside/linesidelaw19.OnboardTurned", spec := "onboardTurned", inPlace := ["internal/bytealg.MakeNoZero", "slices.overlaps[int]"], unfollowed := true, recurses := true, named := ["lineside/vars.widths"], plainKeys := false, apart := false, laid := [("lineside/vars.widths", laid_lineside_vars_widths)], narrowed := true }
def OnboardTurnedUptoSaid : Prop := onboardTurnedUptoRow.holds Tryz.pinned (OpenSpec.upto onboardTurnedSpec)

/-- 'linesidelaw19.OnboardTwice', WHERE WHAT IT READS IS OF BULK AT MOST 1048576: true; the input reads as it did. -/
def onboardTwiceUptoRow : OpenClaim := { program := "ythnmgjngniciaaagreatdoor", sum := "11d7ecb1d23c0675c9a8a332cb766550990e9a3b2f25a15fd98c6315ffeb0958", func := "lineside/linesidelaw19.OnboardTwice", spec := "onboardTwice", inPlace := ["internal/bytealg.MakeNoZero", "slices.overlaps[int]"], unfollowed := true, recurses := true, named := ["lineside/vars.widths"], plainKeys := false, apart := false, laid := [("lineside/vars.widths", laid_lineside_vars_widths)], narrowed := true }
def OnboardTwiceUptoSaid : Prop := onboardTwiceUptoRow.holds Tryz.pinned (OpenSpec.upto onboardTwiceSpec)

/-- 'linesidelaw19.OnboardKeeps', WHERE WHAT IT READS IS OF BULK AT MOST 1048576: true; the input reads as it did. -/
def onboardKeepsUptoRow : OpenClaim := { program := "ythnmgjngniciaaagreatdoor", sum := "11d7ecb1d23c0675c9a8a332cb766550990e9a3b2f25a15fd98c6315ffeb0958", func := "lineside/linesidelaw19.OnboardKeeps", spec := "onboardKeeps", inPlace := ["internal/bytealg.MakeNoZero", "slices.overlaps[int]"], unfollowed := true, recurses := true, named := ["lineside/vars.widths"], plainKeys := false, apart := false, laid := [("lineside/vars.widths", laid_lineside_vars_widths)], narrowed := true }
def OnboardKeepsUptoSaid : Prop := onboardKeepsUptoRow.holds Tryz.pinned (OpenSpec.upto onboardKeepsSpec)

/-- 'linesidelaw19.OnboardStays', WHERE WHAT IT READS IS OF BULK AT MOST 1048576: true; the input reads as it did. -/
def onboardStaysUptoRow : OpenClaim := { program := "ythnmgjngniciaaagreatdoor", sum := "11d7ecb1d23c0675c9a8a332cb766550990e9a3b2f25a15fd98c6315ffeb0958", func := "lineside/linesidelaw19.OnboardStays", spec := "onboardStays", inPlace := ["internal/bytealg.MakeNoZero", "slices.overlaps[int]"], unfollowed := true, recurses := true, named := ["lineside/vars.widths"], plainKeys := false, apart := false, laid := [("lineside/vars.widths", laid_lineside_vars_widths)], narrowed := true }
def OnboardStaysUptoSaid : Prop := onboardStaysUptoRow.holds Tryz.pinned (OpenSpec.upto onboardStaysSpec)

end Rows
end Go.Proofs.YthnmgjngniciaaaGreatDoor
