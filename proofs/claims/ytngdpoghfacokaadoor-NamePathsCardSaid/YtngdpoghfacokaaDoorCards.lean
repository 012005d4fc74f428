/-
  DERIVED. GIVEN WITH THE SEED: THE CARDS: each row of YtngdpoghfacokaaDoorRows.lean that lists a variable, with what it lists TIED to the program's text (the seventh form; the later family's looks); each row that meets fmt, with fmt's text TOLD by the authors' own Lean function (tested against real Go, not proved from fmt's source: count such statements apart). THE CARD IS WHAT COUNTS. Prove the row's statement (the work); the ties are given (YtngdpoghfacokaaDoorTie.lean); close each card by the builder's one call (the guide's Derived/Test/ToyasCard.lean, 'card_holds'). Laid BY PROGRAM, IN A SANDBOX (cutbox-door.mjs). By AI agents, Wed Nov 11 2026. No macro, syntax, notation, axiom, sorry.
-/
import Derived.Test.YtngdpoghfacokaaDoorRows
import GoSem.ClaimSeven
namespace Go.Proofs.YtngdpoghfacokaaDoor
namespace Rows

/-- THE TIED CARD OF 'letterlocklaw1.NameOrder'. -/
def nameOrderCard : Claim7 := { stood := { row := nameOrderRow, standIns := [], harness := (true, "8554030d2c338678f649211a6aaa936737d7d045b2f3344ed423720067a748c8"), looks := false }, kinds := [], alts := [], laidByText := true, laidKinds := [.data, .pinned], laidTests := true, laidLooks := .later }
def NameOrderCardSaid : Prop := Claim7.holds Tryd.pinned (.plain (OpenSpec.ofChange nameOrderSpec)) nameOrderCard

/-- THE TIED CARD OF 'letterlocklaw1.NameSplits'. -/
def nameSplitsCard : Claim7 := { stood := { row := nameSplitsRow, standIns := [], harness := (true, "8554030d2c338678f649211a6aaa936737d7d045b2f3344ed423720067a748c8"), looks := false }, kinds := [], alts := [], laidByText := true, laidKinds := [.data, .pinned], laidTests := true, laidLooks := .later }
def NameSplitsCardSaid : Prop := Claim7.holds Tryd.pinned (.plain (OpenSpec.ofChange nameSplitsSpec)) nameSplitsCard

/-- THE TIED CARD OF 'letterlocklaw1.NameLess'. -/
def nameLessCard : Claim7 := { stood := { row := nameLessRow, standIns := [], harness := (true, "8554030d2c338678f649211a6aaa936737d7d045b2f3344ed423720067a748c8"), looks := false }, kinds := [], alts := [], laidByText := true, laidKinds := [.data, .pinned], laidTests := true, laidLooks := .later }
def NameLessCardSaid : Prop := Claim7.holds Tryd.pinned (.plain (OpenSpec.ofChange nameLessSpec)) nameLessCard

/-- THE TIED CARD OF 'letterlocklaw1.NameMakes'. -/
def nameMakesCard : Claim7 := { stood := { row := nameMakesRow, standIns := [], harness := (true, "8554030d2c338678f649211a6aaa936737d7d045b2f3344ed423720067a748c8"), looks := false }, kinds := [], alts := [], laidByText := true, laidKinds := [.data, .pinned], laidTests := true, laidLooks := .later }
def NameMakesCardSaid : Prop := Claim7.holds Tryd.pinned (.plain (OpenSpec.ofChange nameMakesSpec)) nameMakesCard

/-- THE TIED CARD OF 'letterlocklaw1.NameCuts'. -/
def nameCutsCard : Claim7 := { stood := { row := nameCutsRow, standIns := [], harness := (true, "8554030d2c338678f649211a6aaa936737d7d045b2f3344ed423720067a748c8"), looks := false }, kinds := [], alts := [], laidByText := true, laidKinds := [.data, .pinned], laidTests := true, laidLooks := .later }
def NameCutsCardSaid : Prop := Claim7.holds Tryd.pinned (.plain (OpenSpec.ofChange nameCutsSpec)) nameCutsCard

/-- THE TIED CARD OF 'letterlocklaw1.NameTells'. -/
def nameTellsCard : Claim7 := { stood := { row := nameTellsRow, standIns := [], harness := (true, "8554030d2c338678f649211a6aaa936737d7d045b2f3344ed423720067a748c8"), looks := false }, kinds := [], alts := [], laidByText := true, laidKinds := [.data, .pinned], laidTests := true, laidLooks := .later }
def NameTellsCardSaid : Prop := Claim7.holds Tryd.pinned (.plain (OpenSpec.ofChange nameTellsSpec)) nameTellsCard

/-- THE TIED CARD OF 'letterlocklaw1.NameBack'. -/
def nameBackCard : Claim7 := { stood := { row := nameBackRow, standIns := [], harness := (true, "8554030d2c338678f649211a6aaa936737d7d045b2f3344ed423720067a748c8"), looks := false }, kinds := [], alts := [], laidByText := true, laidKinds := [.data, .pinned], laidTests := true, laidLooks := .later }
def NameBackCardSaid : Prop := Claim7.holds Tryd.pinned (.plain (OpenSpec.ofChange nameBackSpec)) nameBackCard

/-- THE TIED CARD OF 'letterlocklaw1.NameFolds'. -/
def nameFoldsCard : Claim7 := { stood := { row := nameFoldsRow, standIns := [], harness := (true, "8554030d2c338678f649211a6aaa936737d7d045b2f3344ed423720067a748c8"), looks := false }, kinds := [], alts := [], laidByText := true, laidKinds := [.data, .pinned], laidTests := true, laidLooks := .later }
def NameFoldsCardSaid : Prop := Claim7.holds Tryd.pinned (.plain (OpenSpec.ofChange nameFoldsSpec)) nameFoldsCard

/-- THE TIED CARD OF 'letterlocklaw1.NamePaths'. -/
def namePathsCard : Claim7 := { stood := { row := namePathsRow, standIns := [], harness := (true, "8554030d2c338678f649211a6aaa936737d7d045b2f3344ed423720067a748c8"), looks := false }, kinds := [], alts := [], laidByText := true, laidKinds := [.data, .pinned], laidTests := true, laidLooks := .later }
def NamePathsCardSaid : Prop := Claim7.holds Tryd.pinned (.plain (OpenSpec.ofChange namePathsSpec)) namePathsCard

/-- THE SECOND FORM's CARD OF 'letterlocklaw1.NameOrder'. -/
def nameOrderUptoCard : Claim7 := { stood := { row := nameOrderUptoRow, standIns := [], harness := (true, "8554030d2c338678f649211a6aaa936737d7d045b2f3344ed423720067a748c8"), looks := false }, kinds := [], alts := [], laidByText := true, laidKinds := [.data, .pinned], laidTests := true, laidLooks := .later }
def NameOrderUptoCardSaid : Prop := Claim7.holds Tryd.pinned (.plain (OpenSpec.upto nameOrderSpec)) nameOrderUptoCard

/-- THE SECOND FORM's CARD OF 'letterlocklaw1.NameSplits'. -/
def nameSplitsUptoCard : Claim7 := { stood := { row := nameSplitsUptoRow, standIns := [], harness := (true, "8554030d2c338678f649211a6aaa936737d7d045b2f3344ed423720067a748c8"), looks := false }, kinds := [], alts := [], laidByText := true, laidKinds := [.data, .pinned], laidTests := true, laidLooks := .later }
def NameSplitsUptoCardSaid : Prop := Claim7.holds Tryd.pinned (.plain (OpenSpec.upto nameSplitsSpec)) nameSplitsUptoCard

/-- THE SECOND FORM's CARD OF 'letterlocklaw1.NameLess'. -/
def nameLessUptoCard : Claim7 := { stood := { row := nameLessUptoRow, standIns := [], harness := (true, "8554030d2c338678f649211a6aaa936737d7d045b2f3344ed423720067a748c8"), looks := false }, kinds := [], alts := [], laidByText := true, laidKinds := [.data, .pinned], laidTests := true, laidLooks := .later }
def NameLessUptoCardSaid : Prop := Claim7.holds Tryd.pinned (.plain (OpenSpec.upto nameLessSpec)) nameLessUptoCard

/-- THE SECOND FORM's CARD OF 'letterlocklaw1.NameMakes'. -/
def nameMakesUptoCard : Claim7 := { stood := { row := nameMakesUptoRow, standIns := [], harness := (true, "8554030d2c338678f649211a6aaa936737d7d045b2f3344ed423720067a748c8"), looks := false }, kinds := [], alts := [], laidByText := true, laidKinds := [.data, .pinned], laidTests := true, laidLooks := .later }
def NameMakesUptoCardSaid : Prop := Claim7.holds Tryd.pinned (.plain (OpenSpec.upto nameMakesSpec)) nameMakesUptoCard

/-- THE SECOND FORM's CARD OF 'letterlocklaw1.NameCuts'. -/
def nameCutsUptoCard : Claim7 := { stood := { row := nameCutsUptoRow, standIns := [], harness := (true, "8554030d2c338678f649211a6aaa936737d7d045b2f3344ed423720067a748c8"), looks := false }, kinds := [], alts := [], laidByText := true, laidKinds := [.data, .pinned], laidTests := true, laidLooks := .later }
def NameCutsUptoCardSaid : Prop := Claim7.holds Tryd.pinned (.plain (OpenSpec.upto nameCutsSpec)) nameCutsUptoCard

/-- THE SECOND FORM's CARD OF 'letterlocklaw1.NameTells'. -/
def nameTellsUptoCard : Claim7 := { stood := { row := nameTellsUptoRow, standIns := [], harness := (true, "8554030d2c338678f649211a6aaa936737d7d045b2f3344ed423720067a748c8"), looks := false }, kinds := [], alts := [], laidByText := true, laidKinds := [.data, .pinned], laidTests := true, laidLooks := .later }
def NameTellsUptoCardSaid : Prop := Claim7.holds Tryd.pinned (.plain (OpenSpec.upto nameTellsSpec)) nameTellsUptoCard

/-- THE SECOND FORM's CARD OF 'letterlocklaw1.NameBack'. -/
def nameBackUptoCard : Claim7 := { stood := { row := nameBackUptoRow, standIns := [], harness := (true, "8554030d2c338678f649211a6aaa936737d7d045b2f3344ed423720067a748c8"), looks := false }, kinds := [], alts := [], laidByText := true, laidKinds := [.data, .pinned], laidTests := true, laidLooks := .later }
def NameBackUptoCardSaid : Prop := Claim7.holds Tryd.pinned (.plain (OpenSpec.upto nameBackSpec)) nameBackUptoCard

/-- THE SECOND FORM's CARD OF 'letterlocklaw1.NameFolds'. -/
def nameFoldsUptoCard : Claim7 := { stood := { row := nameFoldsUptoRow, standIns := [], harness := (true, "8554030d2c338678f649211a6aaa936737d7d045b2f3344ed423720067a748c8"), looks := false }, kinds := [], alts := [], laidByText := true, laidKinds := [.data, .pinned], laidTests := true, laidLooks := .later }
def NameFoldsUptoCardSaid : Prop := Claim7.holds Tryd.pinned (.plain (OpenSpec.upto nameFoldsSpec)) nameFoldsUptoCard

/-- THE SECOND FORM's CARD OF 'letterlocklaw1.NamePaths'. -/
def namePathsUptoCard : Claim7 := { stood := { row := namePathsUptoRow, standIns := [], harness := (true, "8554030d2c338678f649211a6aaa936737d7d045b2f3344ed423720067a748c8"), looks := false }, kinds := [], alts := [], laidByText := true, laidKinds := [.data, .pinned], laidTests := true, laidLooks := .later }
def NamePathsUptoCardSaid : Prop := Claim7.holds Tryd.pinned (.plain (OpenSpec.upto namePathsSpec)) namePathsUptoCard
end Rows
end Go.Proofs.YtngdpoghfacokaaDoor
