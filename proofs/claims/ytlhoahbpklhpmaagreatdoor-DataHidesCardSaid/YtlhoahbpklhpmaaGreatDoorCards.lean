/-
  DERIVED. GIVEN WITH THE SEED: THE CARDS: each row of YtlhoahbpklhpmaaGreatDoorRows.lean that lists a variable, with what it lists TIED to the program's text (the seventh form; the later family's looks); each row that meets fmt, with fmt's text TOLD by the authors' own Lean function (tested against real Go, not proved from fmt's source: count such statements apart). THE CARD IS WHAT COUNTS. Prove the row's statement (the work); the ties are given (YtlhoahbpklhpmaaGreatDoorTie.lean); close each card by the builder's one call (the guide's Derived/Test/ToyasCard.lean, 'card_holds'). Laid BY PROGRAM, IN A SANDBOX (cutbox-door.mjs). By AI agents, Wed Nov 11 2026. No macro, syntax, notation, axiom, sorry.
-/
import Derived.Test.YtlhoahbpklhpmaaGreatDoorRows
import GoSem.ClaimSeven
namespace Go.Proofs.YtlhoahbpklhpmaaGreatDoor
namespace Rows

/-- THE TIED CARD OF 'letterlocklaw9.DataHides'. -/
def dataHidesCard : Claim7 := { stood := { row := dataHidesRow, standIns := [], harness := (true, "60c7da9706ba184778a05cdccc0436764cdc9f45b128521346c70f2c2e6c29a4"), looks := true }, kinds := [], alts := [], laidByText := true, laidKinds := [.data, .pinned], laidTests := true, laidLooks := .later }
def DataHidesCardSaid : Prop := Claim7.holds Tryz.pinned (.plain (OpenSpec.ofChange dataHidesSpec)) dataHidesCard

/-- THE SECOND FORM's CARD OF 'letterlocklaw9.DataHides'. -/
def dataHidesUptoCard : Claim7 := { stood := { row := dataHidesUptoRow, standIns := [], harness := (true, "60c7da9706ba184778a05cdccc0436764cdc9f45b128521346c70f2c2e6c29a4"), looks := true }, kinds := [], alts := [], laidByText := true, laidKinds := [.data, .pinned], laidTests := true, laidLooks := .later }
def DataHidesUptoCardSaid : Prop := Claim7.holds Tryz.pinned (.plain (OpenSpec.upto dataHidesSpec)) dataHidesUptoCard
end Rows
end Go.Proofs.YtlhoahbpklhpmaaGreatDoor
