/-
  DERIVED. GIVEN WITH THE SEED: THE CARDS: each row of YtfhanoloaejmkaaDoorRows.lean that lists a variable, with what it lists TIED to the program's text (the seventh form; the later family's looks); each row that meets fmt, with fmt's text TOLD by the authors' own Lean function (tested against real Go, not proved from fmt's source: count such statements apart). THE CARD IS WHAT COUNTS. Prove the row's statement (the work); the ties are given (YtfhanoloaejmkaaDoorTie.lean); close each card by the builder's one call (the guide's Derived/Test/ToyasCard.lean, 'card_holds'). Laid BY PROGRAM, IN A SANDBOX (cutbox-door.mjs). By AI agents, Wed Nov 11 2026. No macro, syntax, notation, axiom, sorry.
-/
import Derived.Test.YtfhanoloaejmkaaDoorRows
import GoSem.ClaimSeven
namespace Go.Proofs.YtfhanoloaejmkaaDoor
namespace Rows

/-- THE TIED CARD OF 'letterlocklaw7.RightsDo'. -/
def rightsDoCard : Claim7 := { stood := { row := rightsDoRow, standIns := [], harness := (true, "9f0659575c16d2b3a7478ea8bdb1a4b8a084da412d93478f7de46323e84096c1"), looks := false }, kinds := [], alts := [], laidByText := true, laidKinds := [.data, .pinned], laidTests := true, laidLooks := .later }
def RightsDoCardSaid : Prop := Claim7.holds Tryd.pinned (.plain (OpenSpec.ofChange rightsDoSpec)) rightsDoCard

/-- THE TIED CARD OF 'letterlocklaw7.RightsUndo'. -/
def rightsUndoCard : Claim7 := { stood := { row := rightsUndoRow, standIns := [], harness := (true, "9f0659575c16d2b3a7478ea8bdb1a4b8a084da412d93478f7de46323e84096c1"), looks := false }, kinds := [], alts := [], laidByText := true, laidKinds := [.data, .pinned], laidTests := true, laidLooks := .later }
def RightsUndoCardSaid : Prop := Claim7.holds Tryd.pinned (.plain (OpenSpec.ofChange rightsUndoSpec)) rightsUndoCard

/-- THE TIED CARD OF 'letterlocklaw7.RightsEnd'. -/
def rightsEndCard : Claim7 := { stood := { row := rightsEndRow, standIns := [], harness := (true, "9f0659575c16d2b3a7478ea8bdb1a4b8a084da412d93478f7de46323e84096c1"), looks := false }, kinds := [], alts := [], laidByText := true, laidKinds := [.data, .pinned], laidTests := true, laidLooks := .later }
def RightsEndCardSaid : Prop := Claim7.holds Tryd.pinned (.plain (OpenSpec.ofChange rightsEndSpec)) rightsEndCard

/-- THE TIED CARD OF 'letterlocklaw7.RightsOrder'. -/
def rightsOrderCard : Claim7 := { stood := { row := rightsOrderRow, standIns := [], harness := (true, "9f0659575c16d2b3a7478ea8bdb1a4b8a084da412d93478f7de46323e84096c1"), looks := false }, kinds := [], alts := [], laidByText := true, laidKinds := [.data, .pinned], laidTests := true, laidLooks := .later }
def RightsOrderCardSaid : Prop := Claim7.holds Tryd.pinned (.plain (OpenSpec.ofChange rightsOrderSpec)) rightsOrderCard

/-- THE TIED CARD OF 'letterlocklaw7.RightsErrs'. -/
def rightsErrsCard : Claim7 := { stood := { row := rightsErrsRow, standIns := [], harness := (true, "9f0659575c16d2b3a7478ea8bdb1a4b8a084da412d93478f7de46323e84096c1"), looks := false }, kinds := [], alts := [], laidByText := true, laidKinds := [.data, .pinned], laidTests := true, laidLooks := .later }
def RightsErrsCardSaid : Prop := Claim7.holds Tryd.pinned (.plain (OpenSpec.ofChange rightsErrsSpec)) rightsErrsCard

/-- THE TIED CARD OF 'letterlocklaw7.RightsBack'. -/
def rightsBackCard : Claim7 := { stood := { row := rightsBackRow, standIns := [], harness := (true, "9f0659575c16d2b3a7478ea8bdb1a4b8a084da412d93478f7de46323e84096c1"), looks := false }, kinds := [], alts := [], laidByText := true, laidKinds := [.data, .pinned], laidTests := true, laidLooks := .later }
def RightsBackCardSaid : Prop := Claim7.holds Tryd.pinned (.plain (OpenSpec.ofChange rightsBackSpec)) rightsBackCard

/-- THE TIED CARD OF 'letterlocklaw7.RightsTell'. -/
def rightsTellCard : Claim7 := { stood := { row := rightsTellRow, standIns := [], harness := (true, "9f0659575c16d2b3a7478ea8bdb1a4b8a084da412d93478f7de46323e84096c1"), looks := false }, kinds := [], alts := [], laidByText := true, laidKinds := [.data, .pinned], laidTests := true, laidLooks := .later }
def RightsTellCardSaid : Prop := Claim7.holds Tryd.pinned (.plain (OpenSpec.ofChange rightsTellSpec)) rightsTellCard

/-- THE SECOND FORM's CARD OF 'letterlocklaw7.RightsDo'. -/
def rightsDoUptoCard : Claim7 := { stood := { row := rightsDoUptoRow, standIns := [], harness := (true, "9f0659575c16d2b3a7478ea8bdb1a4b8a084da412d93478f7de46323e84096c1"), looks := false }, kinds := [], alts := [], laidByText := true, laidKinds := [.data, .pinned], laidTests := true, laidLooks := .later }
def RightsDoUptoCardSaid : Prop := Claim7.holds Tryd.pinned (.plain (OpenSpec.upto rightsDoSpec)) rightsDoUptoCard

/-- THE SECOND FORM's CARD OF 'letterlocklaw7.RightsUndo'. -/
def rightsUndoUptoCard : Claim7 := { stood := { row := rightsUndoUptoRow, standIns := [], harness := (true, "9f0659575c16d2b3a7478ea8bdb1a4b8a084da412d93478f7de46323e84096c1"), looks := false }, kinds := [], alts := [], laidByText := true, laidKinds := [.data, .pinned], laidTests := true, laidLooks := .later }
def RightsUndoUptoCardSaid : Prop := Claim7.holds Tryd.pinned (.plain (OpenSpec.upto rightsUndoSpec)) rightsUndoUptoCard

/-- THE SECOND FORM's CARD OF 'letterlocklaw7.RightsEnd'. -/
def rightsEndUptoCard : Claim7 := { stood := { row := rightsEndUptoRow, standIns := [], harness := (true, "9f0659575c16d2b3a7478ea8bdb1a4b8a084da412d93478f7de46323e84096c1"), looks := false }, kinds := [], alts := [], laidByText := true, laidKinds := [.data, .pinned], laidTests := true, laidLooks := .later }
def RightsEndUptoCardSaid : Prop := Claim7.holds Tryd.pinned (.plain (OpenSpec.upto rightsEndSpec)) rightsEndUptoCard

/-- THE SECOND FORM's CARD OF 'letterlocklaw7.RightsOrder'. -/
def rightsOrderUptoCard : Claim7 := { stood := { row := rightsOrderUptoRow, standIns := [], harness := (true, "9f0659575c16d2b3a7478ea8bdb1a4b8a084da412d93478f7de46323e84096c1"), looks := false }, kinds := [], alts := [], laidByText := true, laidKinds := [.data, .pinned], laidTests := true, laidLooks := .later }
def RightsOrderUptoCardSaid : Prop := Claim7.holds Tryd.pinned (.plain (OpenSpec.upto rightsOrderSpec)) rightsOrderUptoCard

/-- THE SECOND FORM's CARD OF 'letterlocklaw7.RightsErrs'. -/
def rightsErrsUptoCard : Claim7 := { stood := { row := rightsErrsUptoRow, standIns := [], harness := (true, "9f0659575c16d2b3a7478ea8bdb1a4b8a084da412d93478f7de46323e84096c1"), looks := false }, kinds := [], alts := [], laidByText := true, laidKinds := [.data, .pinned], laidTests := true, laidLooks := .later }
def RightsErrsUptoCardSaid : Prop := Claim7.holds Tryd.pinned (.plain (OpenSpec.upto rightsErrsSpec)) rightsErrsUptoCard

/-- THE SECOND FORM's CARD OF 'letterlocklaw7.RightsBack'. -/
def rightsBackUptoCard : Claim7 := { stood := { row := rightsBackUptoRow, standIns := [], harness := (true, "9f0659575c16d2b3a7478ea8bdb1a4b8a084da412d93478f7de46323e84096c1"), looks := false }, kinds := [], alts := [], laidByText := true, laidKinds := [.data, .pinned], laidTests := true, laidLooks := .later }
def RightsBackUptoCardSaid : Prop := Claim7.holds Tryd.pinned (.plain (OpenSpec.upto rightsBackSpec)) rightsBackUptoCard

/-- THE SECOND FORM's CARD OF 'letterlocklaw7.RightsTell'. -/
def rightsTellUptoCard : Claim7 := { stood := { row := rightsTellUptoRow, standIns := [], harness := (true, "9f0659575c16d2b3a7478ea8bdb1a4b8a084da412d93478f7de46323e84096c1"), looks := false }, kinds := [], alts := [], laidByText := true, laidKinds := [.data, .pinned], laidTests := true, laidLooks := .later }
def RightsTellUptoCardSaid : Prop := Claim7.holds Tryd.pinned (.plain (OpenSpec.upto rightsTellSpec)) rightsTellUptoCard
end Rows
end Go.Proofs.YtfhanoloaejmkaaDoor
