/-
  DERIVED. GIVEN WITH THE SEED: THE CARDS: each row of YthnmgjngniciaaaGreatDoorRows.lean that lists a variable, with what it lists TIED to the program's text (the seventh form; the later family's looks); each row that meets fmt, with fmt's text TOLD by the authors' own Lean function (tested against real Go, not proved from fmt's source: count such statements apart). THE CARD IS WHAT COUNTS. Prove the row's statement (the work); the ties are given (YthnmgjngniciaaaGreatDoorTie.lean); close each card by the builder's one call (the guide's Derived/Test/ToyasCard.lean, 'card_holds'). Laid BY PROGRAM, IN A SANDBOX (cutbox-door.mjs). By AI agents, Wed Nov 11 2026. No macro, syntax, notation, axiom, sorry.
-/
import Derived.Test.YthnmgjngniciaaaGreatDoorRows
import GoSem.ClaimSeven
namespace Go.Proofs.YthnmgjngniciaaaGreatDoor
namespace Rows

/-- THE TIED CARD OF 'linesidelaw19.OnboardTurned'. -/
def onboardTurnedCard : Claim7 := { stood := { row := onboardTurnedRow, standIns := [], harness := (true, "68c2e46eb419703c32987462948d86b2fde350a0bc80ecb030acb8bc56f72811"), looks := true }, kinds := [], alts := [], laidByText := true, laidKinds := [.data], laidTests := true, laidLooks := .later }
def OnboardTurnedCardSaid : Prop := Claim7.holds Tryz.pinned (.plain (OpenSpec.ofChange onboardTurnedSpec)) onboardTurnedCard

/-- THE TIED CARD OF 'linesidelaw19.OnboardTwice'. -/
def onboardTwiceCard : Claim7 := { stood := { row := onboardTwiceRow, standIns := [], harness := (true, "68c2e46eb419703c32987462948d86b2fde350a0bc80ecb030acb8bc56f72811"), looks := true }, kinds := [], alts := [], laidByText := true, laidKinds := [.data], laidTests := true, laidLooks := .later }
def OnboardTwiceCardSaid : Prop := Claim7.holds Tryz.pinned (.plain (OpenSpec.ofChange onboardTwiceSpec)) onboardTwiceCard

/-- THE TIED CARD OF 'linesidelaw19.OnboardKeeps'. -/
def onboardKeepsCard : Claim7 := { stood := { row := onboardKeepsRow, standIns := [], harness := (true, "68c2e46eb419703c32987462948d86b2fde350a0bc80ecb030acb8bc56f72811"), looks := true }, kinds := [], alts := [], laidByText := true, laidKinds := [.data], laidTests := true, laidLooks := .later }
def OnboardKeepsCardSaid : Prop := Claim7.holds Tryz.pinned (.plain (OpenSpec.ofChange onboardKeepsSpec)) onboardKeepsCard

/-- THE TIED CARD OF 'linesidelaw19.OnboardStays'. -/
def onboardStaysCard : Claim7 := { stood := { row := onboardStaysRow, standIns := [], harness := (true, "68c2e46eb419703c32987462948d86b2fde350a0bc80ecb030acb8bc56f72811"), looks := true }, kinds := [], alts := [], laidByText := true, laidKinds := [.data], laidTests := true, laidLooks := .later }
def OnboardStaysCardSaid : Prop := Claim7.holds Tryz.pinned (.plain (OpenSpec.ofChange onboardStaysSpec)) onboardStaysCard

/-- THE SECOND FORM's CARD OF 'linesidelaw19.OnboardTurned'. -/
def onboardTurnedUptoCard : Claim7 := { stood := { row := onboardTurnedUptoRow, standIns := [], harness := (true, "68c2e46eb419703c32987462948d86b2fde350a0bc80ecb030acb8bc56f72811"), looks := true }, kinds := [], alts := [], laidByText := true, laidKinds := [.data], laidTests := true, laidLooks := .later }
def OnboardTurnedUptoCardSaid : Prop := Claim7.holds Tryz.pinned (.plain (OpenSpec.upto onboardTurnedSpec)) onboardTurnedUptoCard

/-- THE SECOND FORM's CARD OF 'linesidelaw19.OnboardTwice'. -/
def onboardTwiceUptoCard : Claim7 := { stood := { row := onboardTwiceUptoRow, standIns := [], harness := (true, "68c2e46eb419703c32987462948d86b2fde350a0bc80ecb030acb8bc56f72811"), looks := true }, kinds := [], alts := [], laidByText := true, laidKinds := [.data], laidTests := true, laidLooks := .later }
def OnboardTwiceUptoCardSaid : Prop := Claim7.holds Tryz.pinned (.plain (OpenSpec.upto onboardTwiceSpec)) onboardTwiceUptoCard

/-- THE SECOND FORM's CARD OF 'linesidelaw19.OnboardKeeps'. -/
def onboardKeepsUptoCard : Claim7 := { stood := { row := onboardKeepsUptoRow, standIns := [], harness := (true, "68c2e46eb419703c32987462948d86b2fde350a0bc80ecb030acb8bc56f72811"), looks := true }, kinds := [], alts := [], laidByText := true, laidKinds := [.data], laidTests := true, laidLooks := .later }
def OnboardKeepsUptoCardSaid : Prop := Claim7.holds Tryz.pinned (.plain (OpenSpec.upto onboardKeepsSpec)) onboardKeepsUptoCard

/-- THE SECOND FORM's CARD OF 'linesidelaw19.OnboardStays'. -/
def onboardStaysUptoCard : Claim7 := { stood := { row := onboardStaysUptoRow, standIns := [], harness := (true, "68c2e46eb419703c32987462948d86b2fde350a0bc80ecb030acb8bc56f72811"), looks := true }, kinds := [], alts := [], laidByText := true, laidKinds := [.data], laidTests := true, laidLooks := .later }
def OnboardStaysUptoCardSaid : Prop := Claim7.holds Tryz.pinned (.plain (OpenSpec.upto onboardStaysSpec)) onboardStaysUptoCard
end Rows
end Go.Proofs.YthnmgjngniciaaaGreatDoor
