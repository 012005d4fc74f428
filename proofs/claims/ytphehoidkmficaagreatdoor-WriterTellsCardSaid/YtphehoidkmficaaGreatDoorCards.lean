/-
  DERIVED. GIVEN WITH THE SEED: THE CARDS: each row of YtphehoidkmficaaGreatDoorRows.lean that lists a variable, with what it lists TIED to the program's text (the seventh form; the later family's looks); each row that meets fmt, with fmt's text TOLD by the authors' own Lean function (tested against real Go, not proved from fmt's source: count such statements apart). THE CARD IS WHAT COUNTS. Prove the row's statement (the work); the ties are given (YtphehoidkmficaaGreatDoorTie.lean); close each card by the builder's one call (the guide's Derived/Test/ToyasCard.lean, 'card_holds'). Laid BY PROGRAM, IN A SANDBOX (cutbox-door.mjs). By AI agents, Wed Nov 11 2026. No macro, syntax, notation, axiom, sorry.
-/
import Derived.Test.YtphehoidkmficaaGreatDoorRows
import GoSem.ClaimSeven
namespace Go.Proofs.YtphehoidkmficaaGreatDoor
namespace Rows

/-- THE TIED CARD OF 'letterlocklaw9.DataTells'. -/
def dataTellsCard : Claim7 := { stood := { row := dataTellsRow, standIns := [], harness := (true, "3db1bf53857b21ac108eb5b7cf9eac5da58c27775216c7df0aa46324387ab4da"), looks := true }, kinds := [], alts := [], laidByText := true, laidKinds := [.data, .pinned], laidTests := true, laidLooks := .later }
def DataTellsCardSaid : Prop := Claim7.holds Tryz.pinned (.plain (OpenSpec.ofChange dataTellsSpec)) dataTellsCard

/-- THE TIED CARD OF 'letterlocklaw17.WriterOpens'. -/
def writerOpensCard : Claim7 := { stood := { row := writerOpensRow, standIns := [], harness := (true, "3db1bf53857b21ac108eb5b7cf9eac5da58c27775216c7df0aa46324387ab4da"), looks := true }, kinds := [], alts := [], laidByText := true, laidKinds := [.data, .pinned], laidTests := true, laidLooks := .later }
def WriterOpensCardSaid : Prop := Claim7.holds Tryz.pinned (.plain (OpenSpec.ofChange writerOpensSpec)) writerOpensCard

/-- THE TIED CARD OF 'letterlocklaw17.WriterTells'. -/
def writerTellsCard : Claim7 := { stood := { row := writerTellsRow, standIns := [], harness := (true, "3db1bf53857b21ac108eb5b7cf9eac5da58c27775216c7df0aa46324387ab4da"), looks := true }, kinds := [], alts := [], laidByText := true, laidKinds := [.data, .pinned], laidTests := true, laidLooks := .later }
def WriterTellsCardSaid : Prop := Claim7.holds Tryz.pinned (.plain (OpenSpec.ofChange writerTellsSpec)) writerTellsCard

/-- THE TIED CARD OF 'letterlocklaw17.WriterRenews'. -/
def writerRenewsCard : Claim7 := { stood := { row := writerRenewsRow, standIns := [], harness := (true, "3db1bf53857b21ac108eb5b7cf9eac5da58c27775216c7df0aa46324387ab4da"), looks := true }, kinds := [], alts := [], laidByText := true, laidKinds := [.data, .pinned], laidTests := true, laidLooks := .later }
def WriterRenewsCardSaid : Prop := Claim7.holds Tryz.pinned (.plain (OpenSpec.ofChange writerRenewsSpec)) writerRenewsCard

/-- THE TIED CARD OF 'letterlocklaw17.WriterReads'. -/
def writerReadsCard : Claim7 := { stood := { row := writerReadsRow, standIns := [], harness := (true, "3db1bf53857b21ac108eb5b7cf9eac5da58c27775216c7df0aa46324387ab4da"), looks := true }, kinds := [], alts := [], laidByText := true, laidKinds := [.data, .pinned], laidTests := true, laidLooks := .later }
def WriterReadsCardSaid : Prop := Claim7.holds Tryz.pinned (.plain (OpenSpec.ofChange writerReadsSpec)) writerReadsCard

/-- THE TIED CARD OF 'letterlocklaw17.WriterSteps'. -/
def writerStepsCard : Claim7 := { stood := { row := writerStepsRow, standIns := [], harness := (true, "3db1bf53857b21ac108eb5b7cf9eac5da58c27775216c7df0aa46324387ab4da"), looks := true }, kinds := [], alts := [], laidByText := true, laidKinds := [.data, .pinned], laidTests := true, laidLooks := .later }
def WriterStepsCardSaid : Prop := Claim7.holds Tryz.pinned (.plain (OpenSpec.ofChange writerStepsSpec)) writerStepsCard

/-- THE SECOND FORM's CARD OF 'letterlocklaw9.DataTells'. -/
def dataTellsUptoCard : Claim7 := { stood := { row := dataTellsUptoRow, standIns := [], harness := (true, "3db1bf53857b21ac108eb5b7cf9eac5da58c27775216c7df0aa46324387ab4da"), looks := true }, kinds := [], alts := [], laidByText := true, laidKinds := [.data, .pinned], laidTests := true, laidLooks := .later }
def DataTellsUptoCardSaid : Prop := Claim7.holds Tryz.pinned (.plain (OpenSpec.upto dataTellsSpec)) dataTellsUptoCard

/-- THE SECOND FORM's CARD OF 'letterlocklaw17.WriterOpens'. -/
def writerOpensUptoCard : Claim7 := { stood := { row := writerOpensUptoRow, standIns := [], harness := (true, "3db1bf53857b21ac108eb5b7cf9eac5da58c27775216c7df0aa46324387ab4da"), looks := true }, kinds := [], alts := [], laidByText := true, laidKinds := [.data, .pinned], laidTests := true, laidLooks := .later }
def WriterOpensUptoCardSaid : Prop := Claim7.holds Tryz.pinned (.plain (OpenSpec.upto writerOpensSpec)) writerOpensUptoCard

/-- THE SECOND FORM's CARD OF 'letterlocklaw17.WriterTells'. -/
def writerTellsUptoCard : Claim7 := { stood := { row := writerTellsUptoRow, standIns := [], harness := (true, "3db1bf53857b21ac108eb5b7cf9eac5da58c27775216c7df0aa46324387ab4da"), looks := true }, kinds := [], alts := [], laidByText := true, laidKinds := [.data, .pinned], laidTests := true, laidLooks := .later }
def WriterTellsUptoCardSaid : Prop := Claim7.holds Tryz.pinned (.plain (OpenSpec.upto writerTellsSpec)) writerTellsUptoCard

/-- THE SECOND FORM's CARD OF 'letterlocklaw17.WriterRenews'. -/
def writerRenewsUptoCard : Claim7 := { stood := { row := writerRenewsUptoRow, standIns := [], harness := (true, "3db1bf53857b21ac108eb5b7cf9eac5da58c27775216c7df0aa46324387ab4da"), looks := true }, kinds := [], alts := [], laidByText := true, laidKinds := [.data, .pinned], laidTests := true, laidLooks := .later }
def WriterRenewsUptoCardSaid : Prop := Claim7.holds Tryz.pinned (.plain (OpenSpec.upto writerRenewsSpec)) writerRenewsUptoCard

/-- THE SECOND FORM's CARD OF 'letterlocklaw17.WriterReads'. -/
def writerReadsUptoCard : Claim7 := { stood := { row := writerReadsUptoRow, standIns := [], harness := (true, "3db1bf53857b21ac108eb5b7cf9eac5da58c27775216c7df0aa46324387ab4da"), looks := true }, kinds := [], alts := [], laidByText := true, laidKinds := [.data, .pinned], laidTests := true, laidLooks := .later }
def WriterReadsUptoCardSaid : Prop := Claim7.holds Tryz.pinned (.plain (OpenSpec.upto writerReadsSpec)) writerReadsUptoCard

/-- THE SECOND FORM's CARD OF 'letterlocklaw17.WriterSteps'. -/
def writerStepsUptoCard : Claim7 := { stood := { row := writerStepsUptoRow, standIns := [], harness := (true, "3db1bf53857b21ac108eb5b7cf9eac5da58c27775216c7df0aa46324387ab4da"), looks := true }, kinds := [], alts := [], laidByText := true, laidKinds := [.data, .pinned], laidTests := true, laidLooks := .later }
def WriterStepsUptoCardSaid : Prop := Claim7.holds Tryz.pinned (.plain (OpenSpec.upto writerStepsSpec)) writerStepsUptoCard
end Rows
end Go.Proofs.YtphehoidkmficaaGreatDoor
