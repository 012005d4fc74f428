/-
  DERIVED. GIVEN WITH THE SEED: THE CARDS: each row of YtphehoidkmficaaDoorRows.lean that lists a variable, with what it lists TIED to the program's text (the seventh form; the later family's looks); each row that meets fmt, with fmt's text TOLD by the authors' own Lean function (tested against real Go, not proved from fmt's source: count such statements apart). THE CARD IS WHAT COUNTS. Prove the row's statement (the work); the ties are given (YtphehoidkmficaaDoorTie.lean); close each card by the builder's one call (the guide's Derived/Test/ToyasCard.lean, 'card_holds'). Laid BY PROGRAM, IN A SANDBOX (cutbox-door.mjs). By AI agents, Wed Nov 11 2026. No macro, syntax, notation, axiom, sorry.
-/
import Derived.Test.YtphehoidkmficaaDoorRows
import GoSem.ClaimSeven
namespace Go.Proofs.YtphehoidkmficaaDoor
namespace Rows

/-- THE TIED CARD OF 'letterlocklaw9.DataLong'. -/
def dataLongCard : Claim7 := { stood := { row := dataLongRow, standIns := [], harness := (true, "172fef2714867e53a79882a4838de975e2dc18f54f1fcd07f6e5e356ac11ade9"), looks := true }, kinds := [], alts := [], laidByText := true, laidKinds := [.data, .pinned], laidTests := true, laidLooks := .later }
def DataLongCardSaid : Prop := Claim7.holds Tryd.pinned (.plain (OpenSpec.ofChange dataLongSpec)) dataLongCard

/-- THE TIED CARD OF 'letterlocklaw9.DataMoves'. -/
def dataMovesCard : Claim7 := { stood := { row := dataMovesRow, standIns := [], harness := (true, "172fef2714867e53a79882a4838de975e2dc18f54f1fcd07f6e5e356ac11ade9"), looks := true }, kinds := [], alts := [], laidByText := true, laidKinds := [.data, .pinned], laidTests := true, laidLooks := .later }
def DataMovesCardSaid : Prop := Claim7.holds Tryd.pinned (.plain (OpenSpec.ofChange dataMovesSpec)) dataMovesCard

/-- THE TIED CARD OF 'letterlocklaw9.DataArgs'. -/
def dataArgsCard : Claim7 := { stood := { row := dataArgsRow, standIns := [], harness := (true, "172fef2714867e53a79882a4838de975e2dc18f54f1fcd07f6e5e356ac11ade9"), looks := true }, kinds := [], alts := [], laidByText := true, laidKinds := [.data, .pinned], laidTests := true, laidLooks := .later }
def DataArgsCardSaid : Prop := Claim7.holds Tryd.pinned (.plain (OpenSpec.ofChange dataArgsSpec)) dataArgsCard

/-- THE TIED CARD OF 'letterlocklaw9.DataBack'. -/
def dataBackCard : Claim7 := { stood := { row := dataBackRow, standIns := [], harness := (true, "172fef2714867e53a79882a4838de975e2dc18f54f1fcd07f6e5e356ac11ade9"), looks := true }, kinds := [], alts := [], laidByText := true, laidKinds := [.data, .pinned], laidTests := true, laidLooks := .later }
def DataBackCardSaid : Prop := Claim7.holds Tryd.pinned (.plain (OpenSpec.ofChange dataBackSpec)) dataBackCard

/-- THE TIED CARD OF 'letterlocklaw9.DataSpoils'. -/
def dataSpoilsCard : Claim7 := { stood := { row := dataSpoilsRow, standIns := [], harness := (true, "172fef2714867e53a79882a4838de975e2dc18f54f1fcd07f6e5e356ac11ade9"), looks := true }, kinds := [], alts := [], laidByText := true, laidKinds := [.data, .pinned], laidTests := true, laidLooks := .later }
def DataSpoilsCardSaid : Prop := Claim7.holds Tryd.pinned (.plain (OpenSpec.ofChange dataSpoilsSpec)) dataSpoilsCard

/-- THE SECOND FORM's CARD OF 'letterlocklaw9.DataLong'. -/
def dataLongUptoCard : Claim7 := { stood := { row := dataLongUptoRow, standIns := [], harness := (true, "172fef2714867e53a79882a4838de975e2dc18f54f1fcd07f6e5e356ac11ade9"), looks := true }, kinds := [], alts := [], laidByText := true, laidKinds := [.data, .pinned], laidTests := true, laidLooks := .later }
def DataLongUptoCardSaid : Prop := Claim7.holds Tryd.pinned (.plain (OpenSpec.upto dataLongSpec)) dataLongUptoCard

/-- THE SECOND FORM's CARD OF 'letterlocklaw9.DataMoves'. -/
def dataMovesUptoCard : Claim7 := { stood := { row := dataMovesUptoRow, standIns := [], harness := (true, "172fef2714867e53a79882a4838de975e2dc18f54f1fcd07f6e5e356ac11ade9"), looks := true }, kinds := [], alts := [], laidByText := true, laidKinds := [.data, .pinned], laidTests := true, laidLooks := .later }
def DataMovesUptoCardSaid : Prop := Claim7.holds Tryd.pinned (.plain (OpenSpec.upto dataMovesSpec)) dataMovesUptoCard

/-- THE SECOND FORM's CARD OF 'letterlocklaw9.DataArgs'. -/
def dataArgsUptoCard : Claim7 := { stood := { row := dataArgsUptoRow, standIns := [], harness := (true, "172fef2714867e53a79882a4838de975e2dc18f54f1fcd07f6e5e356ac11ade9"), looks := true }, kinds := [], alts := [], laidByText := true, laidKinds := [.data, .pinned], laidTests := true, laidLooks := .later }
def DataArgsUptoCardSaid : Prop := Claim7.holds Tryd.pinned (.plain (OpenSpec.upto dataArgsSpec)) dataArgsUptoCard

/-- THE SECOND FORM's CARD OF 'letterlocklaw9.DataBack'. -/
def dataBackUptoCard : Claim7 := { stood := { row := dataBackUptoRow, standIns := [], harness := (true, "172fef2714867e53a79882a4838de975e2dc18f54f1fcd07f6e5e356ac11ade9"), looks := true }, kinds := [], alts := [], laidByText := true, laidKinds := [.data, .pinned], laidTests := true, laidLooks := .later }
def DataBackUptoCardSaid : Prop := Claim7.holds Tryd.pinned (.plain (OpenSpec.upto dataBackSpec)) dataBackUptoCard

/-- THE SECOND FORM's CARD OF 'letterlocklaw9.DataSpoils'. -/
def dataSpoilsUptoCard : Claim7 := { stood := { row := dataSpoilsUptoRow, standIns := [], harness := (true, "172fef2714867e53a79882a4838de975e2dc18f54f1fcd07f6e5e356ac11ade9"), looks := true }, kinds := [], alts := [], laidByText := true, laidKinds := [.data, .pinned], laidTests := true, laidLooks := .later }
def DataSpoilsUptoCardSaid : Prop := Claim7.holds Tryd.pinned (.plain (OpenSpec.upto dataSpoilsSpec)) dataSpoilsUptoCard
end Rows
end Go.Proofs.YtphehoidkmficaaDoor
