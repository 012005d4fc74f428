/-
  NARROWER THAN 'FOR EVERY INPUT', by the rows' own cells (each row's printed sentence says how): RightsDo: laid · RightsUndo: laid · RightsEnd: laid · RightsOrder: laid · RightsErrs: laid · RightsBack: laid · RightsTell: laid.
  DERIVED. THE GIVEN ROWS OF THIS SEAT. 7 by the template 'for every input the law returns true; each argument reads behind the call as it read before'; 0 by the template 'total and deterministic' (their statements: YtfhanoloaejmkaaDoorTotals.lean).
  GIVEN WITH THE SEED: the statements are not yours to turn. If you find one false, say at which input.
  Laid BY PROGRAM, IN A SANDBOX (cutbox-rows.mjs): the forced cells as the released guide's own fill.sh prints them over the translation 280e3d526adcc8d8… (all of the seat's roots in one cut). By AI agents, Wed Nov 11 2026. No macro, syntax, notation, axiom, sorry.
-/
import Derived.Test.YtfhanoloaejmkaaDoorChecked
import GoSem.PinnedTables
import GoSem.Claim
import GoSem.ClaimJoined
import GoSem.ClaimMapViews
import Derived.JoinedTies
import Derived.KernelRfl
namespace Go.Proofs.YtfhanoloaejmkaaDoor
/- THE CELL 'sum', in the pinned program and in every row, IS THE sha256 OF THE DUMP (.gsa) THAT YtfhanoloaejmkaaDoorProg.lean LOADS. Nothing in Lean hashes anything: it is a label: what it is worth is what the hold of that sum in a sandbox is worth. -/
noncomputable def Tryd.pinned : Pinned := { name := "ytfhanoloaejmkaadoor", sum := "280e3d526adcc8d8c0b00338a6196635fc6926d5d617c5c74fda7207ad7e10ef", checked := Tryd.checked }
namespace Rows
def none {H : Type} : Left H := { results := [], args := [] }

/- WHAT THE LISTED PACKAGE-LEVEL VARIABLES READ AS WHEN THE CALL BEGINS. Each datum BY PROGRAM (the guide's laid-datum.mjs) off the statement by which the dump's own 'gosem.cut.vars' lays the variable. In a bare row this is a premise. The card (YtfhanoloaejmkaaDoorCards.lean) ties it to the program's text. -/
def laid_unicode_utf8_acceptRanges {H : Type} : DataW H := .agg [.agg [.lit (.int .u8 128), .lit (.int .u8 191)], .agg [.lit (.int .u8 160), .lit (.int .u8 191)], .agg [.lit (.int .u8 128), .lit (.int .u8 159)], .agg [.lit (.int .u8 144), .lit (.int .u8 191)], .agg [.lit (.int .u8 128), .lit (.int .u8 143)], .agg [.lit (.int .u8 0), .lit (.int .u8 0)], .agg [.lit (.int .u8 0), .lit (.int .u8 0)], .agg [.lit (.int .u8 0), .lit (.int .u8 0)], .agg [.lit (.int .u8 0), .lit (.int .u8 0)], .agg [.lit (.int .u8 0), .lit (.int .u8 0)], .agg [.lit (.int .u8 0), .lit (.int .u8 0)], .agg [.lit (.int .u8 0), .lit (.int .u8 0)], .agg [.lit (.int .u8 0), .lit (.int .u8 0)], .agg [.lit (.int .u8 0), .lit (.int .u8 0)], .agg [.lit (.int .u8 0), .lit (.int .u8 0)], .agg [.lit (.int .u8 0), .lit (.int .u8 0)]]
/-- One of Go's own tables, pinned by name: the form's constant. -/
def laid_unicode_utf8_first : DataW Unit := Go.Pinned.utf8First

/-- 'letterlocklaw7.RightsDo': WHATEVER THE INPUT: true; the input reads as it did. -/
def rightsDoSpec : ChangeSpec := { name := "rightsDo", fn := fun _ => fun
  | [d] => { results := [.lit (.bool true)], args := [d] }
  | _ => none }
def rightsDoRow : OpenClaim := { program := "ytfhanoloaejmkaadoor", sum := "280e3d526adcc8d8c0b00338a6196635fc6926d5d617c5c74fda7207ad7e10ef", func := "letterlock/letterlocklaw7.RightsDo", spec := "rightsDo", inPlace := ["slices.overlaps[string]"], unfollowed := true, recurses := true, named := ["unicode/utf8.first", "unicode/utf8.acceptRanges"], apart := false, laid := [("unicode/utf8.acceptRanges", laid_unicode_utf8_acceptRanges), ("unicode/utf8.first", laid_unicode_utf8_first)] }
def RightsDoSaid : Prop := rightsDoRow.holds Tryd.pinned (OpenSpec.ofChange rightsDoSpec)

/-- ITS FALSE NEIGHBOUR: 'it returns false'. Refute it at one input. -/
def rightsDoWrong : ChangeSpec := { name := "rightsDo", fn := fun _ => fun
  | [d] => { results := [.lit (.bool false)], args := [d] }
  | _ => none }
def RightsDoWrongFalsely : Prop := rightsDoRow.holds Tryd.pinned (OpenSpec.ofChange rightsDoWrong)

/-- 'letterlocklaw7.RightsUndo': WHATEVER THE INPUT: true; the input reads as it did. -/
def rightsUndoSpec : ChangeSpec := { name := "rightsUndo", fn := fun _ => fun
  | [d1, d2, d3] => { results := [.lit (.bool true)], args := [d1, d2, d3] }
  | _ => none }
def rightsUndoRow : OpenClaim := { program := "ytfhanoloaejmkaadoor", sum := "280e3d526adcc8d8c0b00338a6196635fc6926d5d617c5c74fda7207ad7e10ef", func := "letterlock/letterlocklaw7.RightsUndo", spec := "rightsUndo", inPlace := ["slices.overlaps[string]"], unfollowed := true, recurses := true, named := ["unicode/utf8.first", "unicode/utf8.acceptRanges"], apart := false, laid := [("unicode/utf8.acceptRanges", laid_unicode_utf8_acceptRanges), ("unicode/utf8.first", laid_unicode_utf8_first)] }
def RightsUndoSaid : Prop := rightsUndoRow.holds Tryd.pinned (OpenSpec.ofChange rightsUndoSpec)

/-- ITS FALSE NEIGHBOUR: 'it returns false'. Refute it at one input. -/
def rightsUndoWrong : ChangeSpec := { name := "rightsUndo", fn := fun _ => fun
  | [d1, d2, d3] => { results := [.lit (.bool false)], args := [d1, d2, d3] }
  | _ => none }
def RightsUndoWrongFalsely : Prop := rightsUndoRow.holds Tryd.pinned (OpenSpec.ofChange rightsUndoWrong)

/-- 'letterlocklaw7.RightsEnd': WHATEVER THE INPUT: true; the input reads as it did. -/
def rightsEndSpec : ChangeSpec := { name := "rightsEnd", fn := fun _ => fun
  | [d] => { results := [.lit (.bool true)], args := [d] }
  | _ => none }
def rightsEndRow : OpenClaim := { program := "ytfhanoloaejmkaadoor", sum := "280e3d526adcc8d8c0b00338a6196635fc6926d5d617c5c74fda7207ad7e10ef", func := "letterlock/letterlocklaw7.RightsEnd", spec := "rightsEnd", inPlace := ["slices.overlaps[string]"], unfollowed := true, recurses := true, named := ["unicode/utf8.first", "unicode/utf8.acceptRanges"], apart := false, laid := [("unicode/utf8.acceptRanges", laid_unicode_utf8_acceptRanges), ("unicode/utf8.first", laid_unicode_utf8_first)] }
def RightsEndSaid : Prop := rightsEndRow.holds Tryd.pinned (OpenSpec.ofChange rightsEndSpec)

/-- ITS FALSE NEIGHBOUR: 'it returns false'. Refute it at one input. -/
def rightsEndWrong : ChangeSpec := { name := "rightsEnd", fn := fun _ => fun
  | [d] => { results := [.lit (.bool false)], args := [d] }
  | _ => none }
def RightsEndWrongFalsely : Prop := rightsEndRow.holds Tryd.pinned (OpenSpec.ofChange rightsEndWrong)

/-- 'letterlocklaw7.RightsOrder': WHATEVER THE INPUT: true; the input reads as it did. -/
def rightsOrderSpec : ChangeSpec := { name := "rightsOrder", fn := fun _ => fun
  | [d1, d2, d3, d4, d5] => { results := [.lit (.bool true)], args := [d1, d2, d3, d4, d5] }
  | _ => none }
def rightsOrderRow : OpenClaim := { program := "ytfhanoloaejmkaadoor", sum := "280e3d526adcc8d8c0b00338a6196635fc6926d5d617c5c74fda7207ad7e10ef", func := "letterlock/letterlocklaw7.RightsOrder", spec := "rightsOrder", inPlace := ["slices.overlaps[string]", "internal/abi.NoEscape", "internal/bytealg.MakeNoZero"], named := ["unicode/utf8.first", "unicode/utf8.acceptRanges"], apart := false, laid := [("unicode/utf8.acceptRanges", laid_unicode_utf8_acceptRanges), ("unicode/utf8.first", laid_unicode_utf8_first)] }
def RightsOrderSaid : Prop := rightsOrderRow.holds Tryd.pinned (OpenSpec.ofChange rightsOrderSpec)

/-- ITS FALSE NEIGHBOUR: 'it returns false'. Refute it at one input. -/
def rightsOrderWrong : ChangeSpec := { name := "rightsOrder", fn := fun _ => fun
  | [d1, d2, d3, d4, d5] => { results := [.lit (.bool false)], args := [d1, d2, d3, d4, d5] }
  | _ => none }
def RightsOrderWrongFalsely : Prop := rightsOrderRow.holds Tryd.pinned (OpenSpec.ofChange rightsOrderWrong)

/-- 'letterlocklaw7.RightsErrs': WHATEVER THE INPUT: true; the input reads as it did. -/
def rightsErrsSpec : ChangeSpec := { name := "rightsErrs", fn := fun _ => fun
  | [d1, d2] => { results := [.lit (.bool true)], args := [d1, d2] }
  | _ => none }
def rightsErrsRow : OpenClaim := { program := "ytfhanoloaejmkaadoor", sum := "280e3d526adcc8d8c0b00338a6196635fc6926d5d617c5c74fda7207ad7e10ef", func := "letterlock/letterlocklaw7.RightsErrs", spec := "rightsErrs", inPlace := ["slices.overlaps[string]", "internal/abi.NoEscape", "internal/bytealg.MakeNoZero"], unfollowed := true, recurses := true, named := ["unicode/utf8.first", "unicode/utf8.acceptRanges"], apart := false, laid := [("unicode/utf8.acceptRanges", laid_unicode_utf8_acceptRanges), ("unicode/utf8.first", laid_unicode_utf8_first)] }
def RightsErrsSaid : Prop := rightsErrsRow.holds Tryd.pinned (OpenSpec.ofChange rightsErrsSpec)

/-- ITS FALSE NEIGHBOUR: 'it returns false'. Refute it at one input. -/
def rightsErrsWrong : ChangeSpec := { name := "rightsErrs", fn := fun _ => fun
  | [d1, d2] => { results := [.lit (.bool false)], args := [d1, d2] }
  | _ => none }
def RightsErrsWrongFalsely : Prop := rightsErrsRow.holds Tryd.pinned (OpenSpec.ofChange rightsErrsWrong)

/-- 'letterlocklaw7.RightsBack': WHATEVER THE INPUT: true; the input reads as it did. -/
def rightsBackSpec : ChangeSpec := { name := "rightsBack", fn := fun _ => fun
  | [d1, d2, d3] => { results := [.lit (.bool true)], args := [d1, d2, d3] }
  | _ => none }
def rightsBackRow : OpenClaim := { program := "ytfhanoloaejmkaadoor", sum := "280e3d526adcc8d8c0b00338a6196635fc6926d5d617c5c74fda7207ad7e10ef", func := "letterlock/letterlocklaw7.RightsBack", spec := "rightsBack", inPlace := ["slices.overlaps[string]", "internal/abi.NoEscape", "internal/bytealg.MakeNoZero"], named := ["unicode/utf8.first", "unicode/utf8.acceptRanges"], apart := false, laid := [("unicode/utf8.acceptRanges", laid_unicode_utf8_acceptRanges), ("unicode/utf8.first", laid_unicode_utf8_first)] }
def RightsBackSaid : Prop := rightsBackRow.holds Tryd.pinned (OpenSpec.ofChange rightsBackSpec)

/-- ITS FALSE NEIGHBOUR: 'it returns false'. Refute it at one input. -/
def rightsBackWrong : ChangeSpec := { name := "rightsBack", fn := fun _ => fun
  | [d1, d2, d3] => { results := [.lit (.bool false)], args := [d1, d2, d3] }
  | _ => none }
def RightsBackWrongFalsely : Prop := rightsBackRow.holds Tryd.pinned (OpenSpec.ofChange rightsBackWrong)

/-- 'letterlocklaw7.RightsTell': WHATEVER THE INPUT: true; the input reads as it did. -/
def rightsTellSpec : ChangeSpec := { name := "rightsTell", fn := fun _ => fun
  | [d1, d2, d3, d4] => { results := [.lit (.bool true)], args := [d1, d2, d3, d4] }
  | _ => none }
def rightsTellRow : OpenClaim := { program := "ytfhanoloaejmkaadoor", sum := "280e3d526adcc8d8c0b00338a6196635fc6926d5d617c5c74fda7207ad7e10ef", func := "letterlock/letterlocklaw7.RightsTell", spec := "rightsTell", inPlace := ["slices.overlaps[string]", "internal/abi.NoEscape", "internal/bytealg.MakeNoZero"], unfollowed := true, recurses := true, named := ["unicode/utf8.first", "unicode/utf8.acceptRanges"], apart := false, laid := [("unicode/utf8.acceptRanges", laid_unicode_utf8_acceptRanges), ("unicode/utf8.first", laid_unicode_utf8_first)] }
def RightsTellSaid : Prop := rightsTellRow.holds Tryd.pinned (OpenSpec.ofChange rightsTellSpec)

/-- ITS FALSE NEIGHBOUR: 'it returns false'. Refute it at one input. -/
def rightsTellWrong : ChangeSpec := { name := "rightsTell", fn := fun _ => fun
  | [d1, d2, d3, d4] => { results := [.lit (.bool false)], args := [d1, d2, d3, d4] }
  | _ => none }
def RightsTellWrongFalsely : Prop := rightsTellRow.holds Tryd.pinned (OpenSpec.ofChange rightsTellWrong)

/- THE SECOND FORM. 'bulk': how many values and letters a reading holds, each counted each time it is reached (what is shared counts as often as it is met; a slice's spare places count too). A statement '..UptoSaid' is the law's where the arguments, and the package variables that the reading takes, are together of bulk at most 1048576: NARROWER than '..Said'. Prove '..Said' where nothing that the law and all that it calls make is longer than what came in: it says more and counts as full. Else prove '..UptoSaid'. A law counts once. -/
mutual
def uptoBulk {H : Type} : DataW H → Nat
  | .lit (.string bytes) => bytes.length + 1
  | .lit _ => 1
  | .nil => 1
  | .ptr d => uptoBulk d + 1
  | .slice elems spare => uptoBulkAll elems + uptoBulkAll spare + 1
  | .agg parts => uptoBulkAll parts + 1
  | .iface _ d => uptoBulk d + 1
  | .map entries => uptoBulkEntries entries + 1
  | .held _ => 1
def uptoBulkAll {H : Type} : List (DataW H) → Nat
  | [] => 0
  | d :: r => uptoBulk d + uptoBulkAll r
def uptoBulkEntries {H : Type} : List (Lit × DataW H) → Nat
  | [] => 0
  | x :: r => uptoBulkEntry x + uptoBulkEntries r
def uptoBulkEntry {H : Type} : Lit × DataW H → Nat
  | (.string bytes, d) => bytes.length + uptoBulk d + 1
  | (_, d) => uptoBulk d + 1
 end
def uptoSmall : (H : Type) → List (DataW H) → Bool := fun _ ds => decide (uptoBulkAll ds ≤ 1048576)
def OpenSpec.upto (s : _root_.Go.ChangeSpec) : _root_.Go.OpenSpec := { _root_.Go.OpenSpec.ofChange s with cond := some uptoSmall }

/-- 'letterlocklaw7.RightsDo', WHERE WHAT IT READS IS OF BULK AT MOST 1048576: true; the input reads as it did. -/
def rightsDoUptoRow : OpenClaim := { program := "ytfhanoloaejmkaadoor", sum := "280e3d526adcc8d8c0b00338a6196635fc6926d5d617c5c74fda7207ad7e10ef", func := "letterlock/letterlocklaw7.RightsDo", spec := "rightsDo", inPlace := ["slices.overlaps[string]"], unfollowed := true, recurses := true, named := ["unicode/utf8.first", "unicode/utf8.acceptRanges"], apart := false, laid := [("unicode/utf8.acceptRanges", laid_unicode_utf8_acceptRanges), ("unicode/utf8.first", laid_unicode_utf8_first)], narrowed := true }
def RightsDoUptoSaid : Prop := rightsDoUptoRow.holds Tryd.pinned (OpenSpec.upto rightsDoSpec)

/-- 'letterlocklaw7.RightsUndo', WHERE WHAT IT READS IS OF BULK AT MOST 1048576: true; the input reads as it did. -/
def rightsUndoUptoRow : OpenClaim := { program := "ytfhanoloaejmkaadoor", sum := "280e3d526adcc8d8c0b00338a6196635fc6926d5d617c5c74fda7207ad7e10ef", func := "letterlock/letterlocklaw7.RightsUndo", spec := "rightsUndo", inPlace := ["slices.overlaps[string]"], unfollowed := true, recurses := true, named := ["unicode/utf8.first", "unicode/utf8.acceptRanges"], apart := false, laid := [("unicode/utf8.acceptRanges", laid_unicode_utf8_acceptRanges), ("unicode/utf8.first", laid_unicode_utf8_first)], narrowed := true }
def RightsUndoUptoSaid : Prop := rightsUndoUptoRow.holds Tryd.pinned (OpenSpec.upto rightsUndoSpec)

/-- 'letterlocklaw7.RightsEnd', WHERE WHAT IT READS IS OF BULK AT MOST 1048576: true; the input reads as it did. -/
def rightsEndUptoRow : OpenClaim := { program := "ytfhanoloaejmkaadoor", sum := "280e3d526adcc8d8c0b00338a6196635fc6926d5d617c5c74fda7207ad7e10ef", func := "letterlock/letterlocklaw7.RightsEnd", spec := "rightsEnd", inPlace := ["slices.overlaps[string]"], unfollowed := true, recurses := true, named := ["unicode/utf8.first", "unicode/utf8.acceptRanges"], apart := false, laid := [("unicode/utf8.acceptRanges", laid_unicode_utf8_acceptRanges), ("unicode/utf8.first", laid_unicode_utf8_first)], narrowed := true }
def RightsEndUptoSaid : Prop := rightsEndUptoRow.holds Tryd.pinned (OpenSpec.upto rightsEndSpec)

/-- 'letterlocklaw7.RightsOrder', WHERE WHAT IT READS IS OF BULK AT MOST 1048576: true; the input reads as it did. -/
def rightsOrderUptoRow : OpenClaim := { program := "ytfhanoloaejmkaadoor", sum := "280e3d526adcc8d8c0b00338a6196635fc6926d5d617c5c74fda7207ad7e10ef", func := "letterlock/letterlocklaw7.RightsOrder", spec := "rightsOrder", inPlace := ["slices.overlaps[string]", "internal/abi.NoEscape", "internal/bytealg.MakeNoZero"], named := ["unicode/utf8.first", "unicode/utf8.acceptRanges"], apart := false, laid := [("unicode/utf8.acceptRanges", laid_unicode_utf8_acceptRanges), ("unicode/utf8.first", laid_unicode_utf8_first)], narrowed := true }
def RightsOrderUptoSaid : Prop := rightsOrderUptoRow.holds Tryd.pinned (OpenSpec.upto rightsOrderSpec)

/-- 'letterlocklaw7.RightsErrs', WHERE WHAT IT READS IS OF BULK AT MOST 1048576: true; the input reads as it did. -/
def rightsErrsUptoRow : OpenClaim := { program := "ytfhanoloaejmkaadoor", sum := "280e3d526adcc8d8c0b00338a6196635fc6926d5d617c5c74fda7207ad7e10ef", func := "letterlock/letterlocklaw7.RightsErrs", spec := "rightsErrs", inPlace := ["slices.overlaps[string]", "internal/abi.NoEscape", "internal/bytealg.MakeNoZero"], unfollowed := true, recurses := true, named := ["unicode/utf8.first", "unicode/utf8.acceptRanges"], apart := false, laid := [("unicode/utf8.acceptRanges", laid_unicode_utf8_acceptRanges), ("unicode/utf8.first", laid_unicode_utf8_first)], narrowed := true }
def RightsErrsUptoSaid : Prop := rightsErrsUptoRow.holds Tryd.pinned (OpenSpec.upto rightsErrsSpec)

/-- 'letterlocklaw7.RightsBack', WHERE WHAT IT READS IS OF BULK AT MOST 1048576: true; the input reads as it did. -/
def rightsBackUptoRow : OpenClaim := { program := "ytfhanoloaejmkaadoor", sum := "280e3d526adcc8d8c0b00338a6196635fc6926d5d617c5c74fda7207ad7e10ef", func := "letterlock/letterlocklaw7.RightsBack", spec := "rightsBack", inPlace := ["slices.overlaps[string]", "internal/abi.NoEscape", "internal/bytealg.MakeNoZero"], named := ["unicode/utf8.first", "unicode/utf8.acceptRanges"], apart := false, laid := [("unicode/utf8.acceptRanges", laid_unicode_utf8_acceptRanges), ("unicode/utf8.first", laid_unicode_utf8_first)], narrowed := true }
def RightsBackUptoSaid : Prop := rightsBackUptoRow.holds Tryd.pinned (OpenSpec.upto rightsBackSpec)

/-- 'letterlocklaw7.RightsTell', WHERE WHAT IT READS IS OF BULK AT MOST 1048576: true; the input reads as it did. -/
def rightsTellUptoRow : OpenClaim := { program := "ytfhanoloaejmkaadoor", sum := "280e3d526adcc8d8c0b00338a6196635fc6926d5d617c5c74fda7207ad7e10ef", func := "letterlock/letterlocklaw7.RightsTell", spec := "rightsTell", inPlace := ["slices.overlaps[string]", "internal/abi.NoEscape", "internal/bytealg.MakeNoZero"], unfollowed := true, recurses := true, named := ["unicode/utf8.first", "unicode/utf8.acceptRanges"], apart := false, laid := [("unicode/utf8.acceptRanges", laid_unicode_utf8_acceptRanges), ("unicode/utf8.first", laid_unicode_utf8_first)], narrowed := true }
def RightsTellUptoSaid : Prop := rightsTellUptoRow.holds Tryd.pinned (OpenSpec.upto rightsTellSpec)

end Rows
end Go.Proofs.YtfhanoloaejmkaaDoor
