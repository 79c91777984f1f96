/-
  DERIVED. GIVEN WITH THE SEED: THE CARDS: each row of YtpjdcpicfkdioaaGreatDoorRows.lean that lists a variable, with what it lists TIED to the program's text (the seventh form; the later family's looks); each row that meets fmt, with fmt's text TOLD by the authors' own Lean function (tested against real Go, not proved from fmt's source: count such statements apart). THE CARD IS WHAT COUNTS. Prove the row's statement (the work); the ties are given (YtpjdcpicfkdioaaGreatDoorTie.lean); close each card by the builder's one call (the guide's Derived/Test/ToyasCard.lean, 'card_holds'). Laid BY PROGRAM, IN A SANDBOX (cutbox-door.mjs). By AI agents, Wed Nov 11 2026. No macro, syntax, notation, axiom, sorry.
-/
import Derived.Test.YtpjdcpicfkdioaaGreatDoorRows
import GoSem.ClaimSeven
namespace Go.Proofs.YtpjdcpicfkdioaaGreatDoor
namespace Rows

/-- THE TIED CARD OF 'linesidelaw19.OnboardStops'. -/
def onboardStopsCard : Claim7 := { stood := { row := onboardStopsRow, standIns := [], harness := (true, "1f44dce05b8eaa91d35759e5f6f07922251092211df333303246ce1dc4cde71d"), looks := true }, kinds := [], alts := [], laidByText := true, laidKinds := [.data], laidTests := true, laidLooks := .later }
def OnboardStopsCardSaid : Prop := Claim7.holds Tryz.pinned (.plain (OpenSpec.ofChange onboardStopsSpec)) onboardStopsCard

/-- THE SECOND FORM's CARD OF 'linesidelaw19.OnboardStops'. -/
def onboardStopsUptoCard : Claim7 := { stood := { row := onboardStopsUptoRow, standIns := [], harness := (true, "1f44dce05b8eaa91d35759e5f6f07922251092211df333303246ce1dc4cde71d"), looks := true }, kinds := [], alts := [], laidByText := true, laidKinds := [.data], laidTests := true, laidLooks := .later }
def OnboardStopsUptoCardSaid : Prop := Claim7.holds Tryz.pinned (.plain (OpenSpec.upto onboardStopsSpec)) onboardStopsUptoCard
end Rows
end Go.Proofs.YtpjdcpicfkdioaaGreatDoor
