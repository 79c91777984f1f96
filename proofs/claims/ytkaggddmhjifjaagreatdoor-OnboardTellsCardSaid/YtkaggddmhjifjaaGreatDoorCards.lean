/-
  DERIVED. GIVEN WITH THE SEED: THE CARDS: each row of YtkaggddmhjifjaaGreatDoorRows.lean that lists a variable, with what it lists TIED to the program's text (the seventh form; the later family's looks); each row that meets fmt, with fmt's text TOLD by the authors' own Lean function (tested against real Go, not proved from fmt's source: count such statements apart). THE CARD IS WHAT COUNTS. Prove the row's statement (the work); the ties are given (YtkaggddmhjifjaaGreatDoorTie.lean); close each card by the builder's one call (the guide's Derived/Test/ToyasCard.lean, 'card_holds'). Laid BY PROGRAM, IN A SANDBOX (cutbox-door.mjs). By AI agents, Wed Nov 11 2026. No macro, syntax, notation, axiom, sorry.
-/
import Derived.Test.YtkaggddmhjifjaaGreatDoorRows
import GoSem.ClaimSeven
namespace Go.Proofs.YtkaggddmhjifjaaGreatDoor
namespace Rows

/-- THE TIED CARD OF 'linesidelaw19.OnboardTells'. -/
def onboardTellsCard : Claim7 := { stood := { row := onboardTellsRow, standIns := [], harness := (true, "62fafe8a0a3b3e4b13810967a931a824fc5d1ec0173987b02b9d36911b9c4168"), looks := true }, kinds := [], alts := [], laidByText := true, laidKinds := [.data], laidTests := true, laidLooks := .later }
def OnboardTellsCardSaid : Prop := Claim7.holds Tryz.pinned (.plain (OpenSpec.ofChange onboardTellsSpec)) onboardTellsCard

/-- THE SECOND FORM's CARD OF 'linesidelaw19.OnboardTells'. -/
def onboardTellsUptoCard : Claim7 := { stood := { row := onboardTellsUptoRow, standIns := [], harness := (true, "62fafe8a0a3b3e4b13810967a931a824fc5d1ec0173987b02b9d36911b9c4168"), looks := true }, kinds := [], alts := [], laidByText := true, laidKinds := [.data], laidTests := true, laidLooks := .later }
def OnboardTellsUptoCardSaid : Prop := Claim7.holds Tryz.pinned (.plain (OpenSpec.upto onboardTellsSpec)) onboardTellsUptoCard
end Rows
end Go.Proofs.YtkaggddmhjifjaaGreatDoor
