/-
  NARROWER THAN 'FOR EVERY INPUT', by the rows' own cells (each row's printed sentence says how): DataLong: laid · DataMoves: laid · DataArgs: laid · DataBack: laid · DataSpoils: laid.
  DERIVED. THE GIVEN ROWS OF THIS SEAT. 5 by the template 'for every input the law returns true; each argument reads behind the call as it read before'; 0 by the template 'total and deterministic' (their statements: YtphehoidkmficaaDoorTotals.lean).
  GIVEN WITH THE SEED: the statements are not yours to turn. If you find one false, say at which input.
  Laid BY PROGRAM, IN A SANDBOX (cutbox-rows.mjs): the forced cells as the released guide's own fill.sh prints them over the translation a5191b0cc13fb998… (all of the seat's roots in one cut). By AI agents, Wed Nov 11 2026. No macro, syntax, notation, axiom, sorry.
-/
import Derived.Test.YtphehoidkmficaaDoorChecked
import GoSem.PinnedTables
import GoSem.Claim
import GoSem.ClaimJoined
import GoSem.ClaimMapViews
import Derived.JoinedTies
import Derived.KernelRfl
namespace Go.Proofs.YtphehoidkmficaaDoor
/- THE CELL 'sum', in the pinned program and in every row, IS THE sha256 OF THE DUMP (.gsa) THAT YtphehoidkmficaaDoorProg.lean LOADS. Nothing in Lean hashes anything: it is a label: what it is worth is what the hold of that sum in a sandbox is worth. -/
noncomputable def Tryd.pinned : Pinned := { name := "ytphehoidkmficaadoor", sum := "a5191b0cc13fb9986e4aad564b1e5357a4496aa5776f8520cea31df891cb3686", checked := Tryd.checked }
namespace Rows
def none {H : Type} : Left H := { results := [], args := [] }

/- WHAT THE LISTED PACKAGE-LEVEL VARIABLES READ AS WHEN THE CALL BEGINS. Each datum BY PROGRAM (the guide's laid-datum.mjs) off the statement by which the dump's own 'gosem.cut.vars' lays the variable. In a bare row this is a premise. The card (YtphehoidkmficaaDoorCards.lean) ties it to the program's text. -/
def laid_unicode_utf8_acceptRanges {H : Type} : DataW H := .agg [.agg [.lit (.int .u8 128), .lit (.int .u8 191)], .agg [.lit (.int .u8 160), .lit (.int .u8 191)], .agg [.lit (.int .u8 128), .lit (.int .u8 159)], .agg [.lit (.int .u8 144), .lit (.int .u8 191)], .agg [.lit (.int .u8 128), .lit (.int .u8 143)], .agg [.lit (.int .u8 0), .lit (.int .u8 0)], .agg [.lit (.int .u8 0), .lit (.int .u8 0)], .agg [.lit (.int .u8 0), .lit (.int .u8 0)], .agg [.lit (.int .u8 0), .lit (.int .u8 0)], .agg [.lit (.int .u8 0), .lit (.int .u8 0)], .agg [.lit (.int .u8 0), .lit (.int .u8 0)], .agg [.lit (.int .u8 0), .lit (.int .u8 0)], .agg [.lit (.int .u8 0), .lit (.int .u8 0)], .agg [.lit (.int .u8 0), .lit (.int .u8 0)], .agg [.lit (.int .u8 0), .lit (.int .u8 0)], .agg [.lit (.int .u8 0), .lit (.int .u8 0)]]
/-- One of Go's own tables, pinned by name: the form's constant. -/
def laid_unicode_utf8_first : DataW Unit := Go.Pinned.utf8First

/-- 'letterlocklaw9.DataLong': WHATEVER THE INPUT: true; the input reads as it did. -/
def dataLongSpec : ChangeSpec := { name := "dataLong", fn := fun _ => fun
  | [d1, d2, d3, d4] => { results := [.lit (.bool true)], args := [d1, d2, d3, d4] }
  | _ => none }
def dataLongRow : OpenClaim := { program := "ytphehoidkmficaadoor", sum := "a5191b0cc13fb9986e4aad564b1e5357a4496aa5776f8520cea31df891cb3686", func := "letterlock/letterlocklaw9.DataLong", spec := "dataLong", inPlace := ["internal/bytealg.IndexByteString", "internal/bytealg.IndexString", "internal/abi.NoEscape", "internal/bytealg.MakeNoZero"], unfollowed := true, recurses := true, named := ["internal/bytealg.MaxLen", "unicode/utf8.first", "unicode/utf8.acceptRanges"], apart := false, laid := [("unicode/utf8.acceptRanges", laid_unicode_utf8_acceptRanges), ("unicode/utf8.first", laid_unicode_utf8_first)] }
def DataLongSaid : Prop := dataLongRow.holds Tryd.pinned (OpenSpec.ofChange dataLongSpec)

/-- ITS FALSE NEIGHBOUR: 'it returns false'. Refute it at one input. -/
def dataLongWrong : ChangeSpec := { name := "dataLong", fn := fun _ => fun
  | [d1, d2, d3, d4] => { results := [.lit (.bool false)], args := [d1, d2, d3, d4] }
  | _ => none }
def DataLongWrongFalsely : Prop := dataLongRow.holds Tryd.pinned (OpenSpec.ofChange dataLongWrong)

/-- 'letterlocklaw9.DataMoves': WHATEVER THE INPUT: true; the input reads as it did. -/
def dataMovesSpec : ChangeSpec := { name := "dataMoves", fn := fun _ => fun
  | [d1, d2, d3, d4, d5] => { results := [.lit (.bool true)], args := [d1, d2, d3, d4, d5] }
  | _ => none }
def dataMovesRow : OpenClaim := { program := "ytphehoidkmficaadoor", sum := "a5191b0cc13fb9986e4aad564b1e5357a4496aa5776f8520cea31df891cb3686", func := "letterlock/letterlocklaw9.DataMoves", spec := "dataMoves", inPlace := ["internal/bytealg.IndexByteString", "internal/bytealg.IndexString", "internal/abi.NoEscape", "internal/bytealg.MakeNoZero"], unfollowed := true, recurses := true, named := ["internal/bytealg.MaxLen", "unicode/utf8.first", "unicode/utf8.acceptRanges"], apart := false, laid := [("unicode/utf8.acceptRanges", laid_unicode_utf8_acceptRanges), ("unicode/utf8.first", laid_unicode_utf8_first)] }
def DataMovesSaid : Prop := dataMovesRow.holds Tryd.pinned (OpenSpec.ofChange dataMovesSpec)

/-- ITS FALSE NEIGHBOUR: 'it returns false'. Refute it at one input. -/
def dataMovesWrong : ChangeSpec := { name := "dataMoves", fn := fun _ => fun
  | [d1, d2, d3, d4, d5] => { results := [.lit (.bool false)], args := [d1, d2, d3, d4, d5] }
  | _ => none }
def DataMovesWrongFalsely : Prop := dataMovesRow.holds Tryd.pinned (OpenSpec.ofChange dataMovesWrong)

/-- 'letterlocklaw9.DataArgs': WHATEVER THE INPUT: true; the input reads as it did. -/
def dataArgsSpec : ChangeSpec := { name := "dataArgs", fn := fun _ => fun
  | [d1, d2, d3, d4, d5] => { results := [.lit (.bool true)], args := [d1, d2, d3, d4, d5] }
  | _ => none }
def dataArgsRow : OpenClaim := { program := "ytphehoidkmficaadoor", sum := "a5191b0cc13fb9986e4aad564b1e5357a4496aa5776f8520cea31df891cb3686", func := "letterlock/letterlocklaw9.DataArgs", spec := "dataArgs", inPlace := ["internal/bytealg.IndexByteString", "internal/bytealg.IndexString", "internal/abi.NoEscape", "internal/bytealg.MakeNoZero"], unfollowed := true, recurses := true, named := ["internal/bytealg.MaxLen", "unicode/utf8.first", "unicode/utf8.acceptRanges"], apart := false, laid := [("unicode/utf8.acceptRanges", laid_unicode_utf8_acceptRanges), ("unicode/utf8.first", laid_unicode_utf8_first)] }
def DataArgsSaid : Prop := dataArgsRow.holds Tryd.pinned (OpenSpec.ofChange dataArgsSpec)

/-- ITS FALSE NEIGHBOUR: 'it returns false'. Refute it at one input. -/
def dataArgsWrong : ChangeSpec := { name := "dataArgs", fn := fun _ => fun
  | [d1, d2, d3, d4, d5] => { results := [.lit (.bool false)], args := [d1, d2, d3, d4, d5] }
  | _ => none }
def DataArgsWrongFalsely : Prop := dataArgsRow.holds Tryd.pinned (OpenSpec.ofChange dataArgsWrong)

/-- 'letterlocklaw9.DataBack': WHATEVER THE INPUT: true; the input reads as it did. -/
def dataBackSpec : ChangeSpec := { name := "dataBack", fn := fun _ => fun
  | [d1, d2, d3, d4] => { results := [.lit (.bool true)], args := [d1, d2, d3, d4] }
  | _ => none }
def dataBackRow : OpenClaim := { program := "ytphehoidkmficaadoor", sum := "a5191b0cc13fb9986e4aad564b1e5357a4496aa5776f8520cea31df891cb3686", func := "letterlock/letterlocklaw9.DataBack", spec := "dataBack", inPlace := ["internal/bytealg.IndexByteString", "internal/bytealg.IndexString", "internal/abi.NoEscape", "internal/bytealg.MakeNoZero"], unfollowed := true, recurses := true, named := ["internal/bytealg.MaxLen", "unicode/utf8.first", "unicode/utf8.acceptRanges"], apart := false, laid := [("unicode/utf8.acceptRanges", laid_unicode_utf8_acceptRanges), ("unicode/utf8.first", laid_unicode_utf8_first)] }
def DataBackSaid : Prop := dataBackRow.holds Tryd.pinned (OpenSpec.ofChange dataBackSpec)

/-- ITS FALSE NEIGHBOUR: 'it returns false'. Refute it at one input. -/
def dataBackWrong : ChangeSpec := { name := "dataBack", fn := fun _ => fun
  | [d1, d2, d3, d4] => { results := [.lit (.bool false)], args := [d1, d2, d3, d4] }
  | _ => none }
def DataBackWrongFalsely : Prop := dataBackRow.holds Tryd.pinned (OpenSpec.ofChange dataBackWrong)

/-- 'letterlocklaw9.DataSpoils': WHATEVER THE INPUT: true; the input reads as it did. -/
def dataSpoilsSpec : ChangeSpec := { name := "dataSpoils", fn := fun _ => fun
  | [d1, d2, d3, d4, d5] => { results := [.lit (.bool true)], args := [d1, d2, d3, d4, d5] }
  | _ => none }
def dataSpoilsRow : OpenClaim := { program := "ytphehoidkmficaadoor", sum := "a5191b0cc13fb9986e4aad564b1e5357a4496aa5776f8520cea31df891cb3686", func := "letterlock/letterlocklaw9.DataSpoils", spec := "dataSpoils", inPlace := ["internal/bytealg.IndexByteString", "internal/bytealg.IndexString", "internal/abi.NoEscape", "internal/bytealg.MakeNoZero"], unfollowed := true, recurses := true, named := ["internal/bytealg.MaxLen", "unicode/utf8.first", "unicode/utf8.acceptRanges"], apart := false, laid := [("unicode/utf8.acceptRanges", laid_unicode_utf8_acceptRanges), ("unicode/utf8.first", laid_unicode_utf8_first)] }
def DataSpoilsSaid : Prop := dataSpoilsRow.holds Tryd.pinned (OpenSpec.ofChange dataSpoilsSpec)

/-- ITS FALSE NEIGHBOUR: 'it returns false'. Refute it at one input. -/
def dataSpoilsWrong : ChangeSpec := { name := "dataSpoils", fn := fun _ => fun
  | [d1, d2, d3, d4, d5] => { results := [.lit (.bool false)], args := [d1, d2, d3, d4, d5] }
  | _ => none }
def DataSpoilsWrongFalsely : Prop := dataSpoilsRow.holds Tryd.pinned (OpenSpec.ofChange dataSpoilsWrong)

/- THE SECOND FORM. 'bulk': how many values and letters a reading holds, each counted each time it is reached (what is shared counts as often as it is met; a slice's spare places count too). A statement '..UptoSaid' is the law's where the arguments, and the package variables that the reading takes, are together of bulk at most 1048576: NARROWER than '..Said'. Prove '..Said' where nothing that the law and all that it calls make is longer than what came in: it says more and counts as full. Else prove '..UptoSaid'. A law counts once. -/
mutual
def uptoBulk {H : Type} : DataW H → Nat
  | .lit (.string bytes) => bytes.length + 1
  | .lit _ => 1
  | .nil => 1
  | .ptr d => uptoBulk d + 1
  | .slice elems spare => uptoBulkAll elems + uptoBulkAll spare + 1
  | .agg parts => uptoBulkAll parts + 1
  | .iface _ d => uptoBulk d + 1
  | .map entries => uptoBulkEntries entries + 1
  | .held _ => 1
def uptoBulkAll {H : Type} : List (DataW H) → Nat
  | [] => 0
  | d :: r => uptoBulk d + uptoBulkAll r
def uptoBulkEntries {H : Type} : List (Lit × DataW H) → Nat
  | [] => 0
  | x :: r => uptoBulkEntry x + uptoBulkEntries r
def uptoBulkEntry {H : Type} : Lit × DataW H → Nat
  | (.string bytes, d) => bytes.length + uptoBulk d + 1
  | (_, d) => uptoBulk d + 1
 end
def uptoSmall : (H : Type) → List (DataW H) → Bool := fun _ ds => decide (uptoBulkAll ds ≤ 1048576)
def OpenSpec.upto (s : _root_.Go.ChangeSpec) : _root_.Go.OpenSpec := { _root_.Go.OpenSpec.ofChange s with cond := some uptoSmall }

/-- 'letterlocklaw9.DataLong', WHERE WHAT IT READS IS OF BULK AT MOST 1048576: true; the input reads as it did. -/
def dataLongUptoRow : OpenClaim := { program := "ytphehoidkmficaadoor", sum := "a5191b0cc13fb9986e4aad564b1e5357a4496aa5776f8520cea31df891cb3686", func := "letterlock/letterlocklaw9.DataLong", spec := "dataLong", inPlace := ["internal/bytealg.IndexByteString", "internal/bytealg.IndexString", "internal/abi.NoEscape", "internal/bytealg.MakeNoZero"], unfollowed := true, recurses := true, named := ["internal/bytealg.MaxLen", "unicode/utf8.first", "unicode/utf8.acceptRanges"], apart := false, laid := [("unicode/utf8.acceptRanges", laid_unicode_utf8_acceptRanges), ("unicode/utf8.first", laid_unicode_utf8_first)], narrowed := true }
def DataLongUptoSaid : Prop := dataLongUptoRow.holds Tryd.pinned (OpenSpec.upto dataLongSpec)

/-- 'letterlocklaw9.DataMoves', WHERE WHAT IT READS IS OF BULK AT MOST 1048576: true; the input reads as it did. -/
def dataMovesUptoRow : OpenClaim := { program := "ytphehoidkmficaadoor", sum := "a5191b0cc13fb9986e4aad564b1e5357a4496aa5776f8520cea31df891cb3686", func := "letterlock/letterlocklaw9.DataMoves", spec := "dataMoves", inPlace := ["internal/bytealg.IndexByteString", "internal/bytealg.IndexString", "internal/abi.NoEscape", "internal/bytealg.MakeNoZero"], unfollowed := true, recurses := true, named := ["internal/bytealg.MaxLen", "unicode/utf8.first", "unicode/utf8.acceptRanges"], apart := false, laid := [("unicode/utf8.acceptRanges", laid_unicode_utf8_acceptRanges), ("unicode/utf8.first", laid_unicode_utf8_first)], narrowed := true }
def DataMovesUptoSaid : Prop := dataMovesUptoRow.holds Tryd.pinned (OpenSpec.upto dataMovesSpec)

/-- 'letterlocklaw9.DataArgs', WHERE WHAT IT READS IS OF BULK AT MOST 1048576: true; the input reads as it did. -/
def dataArgsUptoRow : OpenClaim := { program := "ytphehoidkmficaadoor", sum := "a5191b0cc13fb9986e4aad564b1e5357a4496aa5776f8520cea31df891cb3686", func := "letterlock/letterlocklaw9.DataArgs", spec := "dataArgs", inPlace := ["internal/bytealg.IndexByteString", "internal/bytealg.IndexString", "internal/abi.NoEscape", "internal/bytealg.MakeNoZero"], unfollowed := true, recurses := true, named := ["internal/bytealg.MaxLen", "unicode/utf8.first", "unicode/utf8.acceptRanges"], apart := false, laid := [("unicode/utf8.acceptRanges", laid_unicode_utf8_acceptRanges), ("unicode/utf8.first", laid_unicode_utf8_first)], narrowed := true }
def DataArgsUptoSaid : Prop := dataArgsUptoRow.holds Tryd.pinned (OpenSpec.upto dataArgsSpec)

/-- 'letterlocklaw9.DataBack', WHERE WHAT IT READS IS OF BULK AT MOST 1048576: true; the input reads as it did. -/
def dataBackUptoRow : OpenClaim := { program := "ytphehoidkmficaadoor", sum := "a5191b0cc13fb9986e4aad564b1e5357a4496aa5776f8520cea31df891cb3686", func := "letterlock/letterlocklaw9.DataBack", spec := "dataBack", inPlace := ["internal/bytealg.IndexByteString", "internal/bytealg.IndexString", "internal/abi.NoEscape", "internal/bytealg.MakeNoZero"], unfollowed := true, recurses := true, named := ["internal/bytealg.MaxLen", "unicode/utf8.first", "unicode/utf8.acceptRanges"], apart := false, laid := [("unicode/utf8.acceptRanges", laid_unicode_utf8_acceptRanges), ("unicode/utf8.first", laid_unicode_utf8_first)], narrowed := true }
def DataBackUptoSaid : Prop := dataBackUptoRow.holds Tryd.pinned (OpenSpec.upto dataBackSpec)

/-- 'letterlocklaw9.DataSpoils', WHERE WHAT IT READS IS OF BULK AT MOST 1048576: true; the input reads as it did. -/
def dataSpoilsUptoRow : OpenClaim := { program := "ytphehoidkmficaadoor", sum := "a5191b0cc13fb9986e4aad564b1e5357a4496aa5776f8520cea31df891cb3686", func := "letterlock/letterlocklaw9.DataSpoils", spec := "dataSpoils", inPlace := ["internal/bytealg.IndexByteString", "internal/bytealg.IndexString", "internal/abi.NoEscape", "internal/bytealg.MakeNoZero"], unfollowed := true, recurses := true, named := ["internal/bytealg.MaxLen", "unicode/utf8.first", "unicode/utf8.acceptRanges"], apart := false, laid := [("unicode/utf8.acceptRanges", laid_unicode_utf8_acceptRanges), ("unicode/utf8.first", laid_unicode_utf8_first)], narrowed := true }
def DataSpoilsUptoSaid : Prop := dataSpoilsUptoRow.holds Tryd.pinned (OpenSpec.upto dataSpoilsSpec)

end Rows
end Go.Proofs.YtphehoidkmficaaDoor
