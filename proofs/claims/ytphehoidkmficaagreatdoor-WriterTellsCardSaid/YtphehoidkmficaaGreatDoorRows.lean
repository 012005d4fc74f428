/-
  NARROWER THAN 'FOR EVERY INPUT', by the rows' own cells (each row's printed sentence says how): DataTells: laid · WriterOpens: laid · WriterTells: laid · WriterRenews: laid · WriterReads: laid · WriterSteps: laid.
  DERIVED. THE GIVEN ROWS OF THIS SEAT. 6 by the template 'for every input the law returns true; each argument reads behind the call as it read before'; 0 by the template 'total and deterministic' (their statements: YtphehoidkmficaaGreatDoorTotals.lean).
  GIVEN WITH THE SEED: the statements are not yours to turn. If you find one false, say at which input.
  Laid BY PROGRAM, IN A SANDBOX (cutbox-rows.mjs): the forced cells as the released guide's own fill.sh prints them over the translation b4d87e7980b7a50b… (all of the seat's roots in one cut). By AI agents, Wed Nov 11 2026. No macro, syntax, notation, axiom, sorry.
-/
import Derived.Test.YtphehoidkmficaaGreatDoorChecked
import GoSem.PinnedTables
import GoSem.Claim
import GoSem.ClaimJoined
import GoSem.ClaimMapViews
import Derived.JoinedTies
import Derived.KernelRfl
namespace Go.Proofs.YtphehoidkmficaaGreatDoor
/- THE CELL 'sum', in the pinned program and in every row, IS THE sha256 OF THE DUMP (.gsa) THAT YtphehoidkmficaaGreatDoorProg.lean LOADS. Nothing in Lean hashes anything: it is a label: what it is worth is what the hold of that sum in a sandbox is worth. -/
noncomputable def Tryz.pinned : Pinned := { name := "ytphehoidkmficaagreatdoor", sum := "b4d87e7980b7a50befed00a20b339c52d275906a4d750b4ff60cd16fd6c951bf", checked := Tryz.checked }
namespace Rows
def none {H : Type} : Left H := { results := [], args := [] }

/- WHAT THE LISTED PACKAGE-LEVEL VARIABLES READ AS WHEN THE CALL BEGINS. Each datum BY PROGRAM (the guide's laid-datum.mjs) off the statement by which the dump's own 'gosem.cut.vars' lays the variable. In a bare row this is a premise. The card (YtphehoidkmficaaGreatDoorCards.lean) ties it to the program's text. -/
def laid_unicode_utf8_acceptRanges {H : Type} : DataW H := .agg [.agg [.lit (.int .u8 128), .lit (.int .u8 191)], .agg [.lit (.int .u8 160), .lit (.int .u8 191)], .agg [.lit (.int .u8 128), .lit (.int .u8 159)], .agg [.lit (.int .u8 144), .lit (.int .u8 191)], .agg [.lit (.int .u8 128), .lit (.int .u8 143)], .agg [.lit (.int .u8 0), .lit (.int .u8 0)], .agg [.lit (.int .u8 0), .lit (.int .u8 0)], .agg [.lit (.int .u8 0), .lit (.int .u8 0)], .agg [.lit (.int .u8 0), .lit (.int .u8 0)], .agg [.lit (.int .u8 0), .lit (.int .u8 0)], .agg [.lit (.int .u8 0), .lit (.int .u8 0)], .agg [.lit (.int .u8 0), .lit (.int .u8 0)], .agg [.lit (.int .u8 0), .lit (.int .u8 0)], .agg [.lit (.int .u8 0), .lit (.int .u8 0)], .agg [.lit (.int .u8 0), .lit (.int .u8 0)], .agg [.lit (.int .u8 0), .lit (.int .u8 0)]]
/-- One of Go's own tables, pinned by name: the form's constant. -/
def laid_unicode_utf8_first : DataW Unit := Go.Pinned.utf8First

/-- 'letterlocklaw9.DataTells': WHATEVER THE INPUT: true; the input reads as it did. -/
def dataTellsSpec : ChangeSpec := { name := "dataTells", fn := fun _ => fun
  | [d1, d2, d3, d4, d5, d6, d7] => { results := [.lit (.bool true)], args := [d1, d2, d3, d4, d5, d6, d7] }
  | _ => none }
def dataTellsRow : OpenClaim := { program := "ytphehoidkmficaagreatdoor", sum := "b4d87e7980b7a50befed00a20b339c52d275906a4d750b4ff60cd16fd6c951bf", func := "letterlock/letterlocklaw9.DataTells", spec := "dataTells", inPlace := ["internal/bytealg.IndexByteString", "internal/bytealg.IndexString", "internal/abi.NoEscape", "internal/bytealg.MakeNoZero"], unfollowed := true, recurses := true, named := ["internal/bytealg.MaxLen", "unicode/utf8.first", "unicode/utf8.acceptRanges"], apart := false, laid := [("unicode/utf8.acceptRanges", laid_unicode_utf8_acceptRanges), ("unicode/utf8.first", laid_unicode_utf8_first)] }
def DataTellsSaid : Prop := dataTellsRow.holds Tryz.pinned (OpenSpec.ofChange dataTellsSpec)

/-- ITS FALSE NEIGHBOUR: 'it returns false'. Refute it at one input. -/
def dataTellsWrong : ChangeSpec := { name := "dataTells", fn := fun _ => fun
  | [d1, d2, d3, d4, d5, d6, d7] => { results := [.lit (.bool false)], args := [d1, d2, d3, d4, d5, d6, d7] }
  | _ => none }
def DataTellsWrongFalsely : Prop := dataTellsRow.holds Tryz.pinned (OpenSpec.ofChange dataTellsWrong)

/-- 'letterlocklaw17.WriterOpens': WHATEVER THE INPUT: true; the input reads as it did. -/
def writerOpensSpec : ChangeSpec := { name := "writerOpens", fn := fun _ => fun
  | [d1, d2, d3, d4] => { results := [.lit (.bool true)], args := [d1, d2, d3, d4] }
  | _ => none }
def writerOpensRow : OpenClaim := { program := "ytphehoidkmficaagreatdoor", sum := "b4d87e7980b7a50befed00a20b339c52d275906a4d750b4ff60cd16fd6c951bf", func := "letterlock/letterlocklaw17.WriterOpens", spec := "writerOpens", inPlace := ["internal/bytealg.IndexByteString", "internal/bytealg.IndexString", "internal/abi.NoEscape", "internal/bytealg.MakeNoZero"], unfollowed := true, recurses := true, named := ["internal/bytealg.MaxLen", "unicode/utf8.first", "unicode/utf8.acceptRanges"], apart := false, laid := [("unicode/utf8.acceptRanges", laid_unicode_utf8_acceptRanges), ("unicode/utf8.first", laid_unicode_utf8_first)] }
def WriterOpensSaid : Prop := writerOpensRow.holds Tryz.pinned (OpenSpec.ofChange writerOpensSpec)

/-- ITS FALSE NEIGHBOUR: 'it returns false'. Refute it at one input. -/
def writerOpensWrong : ChangeSpec := { name := "writerOpens", fn := fun _ => fun
  | [d1, d2, d3, d4] => { results := [.lit (.bool false)], args := [d1, d2, d3, d4] }
  | _ => none }
def WriterOpensWrongFalsely : Prop := writerOpensRow.holds Tryz.pinned (OpenSpec.ofChange writerOpensWrong)

/-- 'letterlocklaw17.WriterTells': WHATEVER THE INPUT: true; the input reads as it did. -/
def writerTellsSpec : ChangeSpec := { name := "writerTells", fn := fun _ => fun
  | [d1, d2, d3] => { results := [.lit (.bool true)], args := [d1, d2, d3] }
  | _ => none }
def writerTellsRow : OpenClaim := { program := "ytphehoidkmficaagreatdoor", sum := "b4d87e7980b7a50befed00a20b339c52d275906a4d750b4ff60cd16fd6c951bf", func := "letterlock/letterlocklaw17.WriterTells", spec := "writerTells", inPlace := ["internal/bytealg.IndexByteString", "internal/bytealg.IndexString", "internal/abi.NoEscape", "internal/bytealg.MakeNoZero"], unfollowed := true, recurses := true, named := ["internal/bytealg.MaxLen", "unicode/utf8.first", "unicode/utf8.acceptRanges"], apart := false, laid := [("unicode/utf8.acceptRanges", laid_unicode_utf8_acceptRanges), ("unicode/utf8.first", laid_unicode_utf8_first)] }
def WriterTellsSaid : Prop := writerTellsRow.holds Tryz.pinned (OpenSpec.ofChange writerTellsSpec)

/-- ITS FALSE NEIGHBOUR: 'it returns false'. Refute it at one input. -/
def writerTellsWrong : ChangeSpec := { name := "writerTells", fn := fun _ => fun
  | [d1, d2, d3] => { results := [.lit (.bool false)], args := [d1, d2, d3] }
  | _ => none }
def WriterTellsWrongFalsely : Prop := writerTellsRow.holds Tryz.pinned (OpenSpec.ofChange writerTellsWrong)

/-- 'letterlocklaw17.WriterRenews': WHATEVER THE INPUT: true; the input reads as it did. -/
def writerRenewsSpec : ChangeSpec := { name := "writerRenews", fn := fun _ => fun
  | [d1, d2, d3, d4] => { results := [.lit (.bool true)], args := [d1, d2, d3, d4] }
  | _ => none }
def writerRenewsRow : OpenClaim := { program := "ytphehoidkmficaagreatdoor", sum := "b4d87e7980b7a50befed00a20b339c52d275906a4d750b4ff60cd16fd6c951bf", func := "letterlock/letterlocklaw17.WriterRenews", spec := "writerRenews", inPlace := ["internal/bytealg.IndexByteString", "internal/bytealg.IndexString", "internal/abi.NoEscape", "internal/bytealg.MakeNoZero"], unfollowed := true, recurses := true, named := ["internal/bytealg.MaxLen", "unicode/utf8.first", "unicode/utf8.acceptRanges"], apart := false, laid := [("unicode/utf8.acceptRanges", laid_unicode_utf8_acceptRanges), ("unicode/utf8.first", laid_unicode_utf8_first)] }
def WriterRenewsSaid : Prop := writerRenewsRow.holds Tryz.pinned (OpenSpec.ofChange writerRenewsSpec)

/-- ITS FALSE NEIGHBOUR: 'it returns false'. Refute it at one input. -/
def writerRenewsWrong : ChangeSpec := { name := "writerRenews", fn := fun _ => fun
  | [d1, d2, d3, d4] => { results := [.lit (.bool false)], args := [d1, d2, d3, d4] }
  | _ => none }
def WriterRenewsWrongFalsely : Prop := writerRenewsRow.holds Tryz.pinned (OpenSpec.ofChange writerRenewsWrong)

/-- 'letterlocklaw17.WriterReads': WHATEVER THE INPUT: true; the input reads as it did. -/
def writerReadsSpec : ChangeSpec := { name := "writerReads", fn := fun _ => fun
  | [d1, d2, d3, d4, d5] => { results := [.lit (.bool true)], args := [d1, d2, d3, d4, d5] }
  | _ => none }
def writerReadsRow : OpenClaim := { program := "ytphehoidkmficaagreatdoor", sum := "b4d87e7980b7a50befed00a20b339c52d275906a4d750b4ff60cd16fd6c951bf", func := "letterlock/letterlocklaw17.WriterReads", spec := "writerReads", inPlace := ["internal/bytealg.IndexByteString", "internal/bytealg.IndexString", "internal/abi.NoEscape", "internal/bytealg.MakeNoZero"], unfollowed := true, recurses := true, named := ["internal/bytealg.MaxLen", "unicode/utf8.first", "unicode/utf8.acceptRanges"], apart := false, laid := [("unicode/utf8.acceptRanges", laid_unicode_utf8_acceptRanges), ("unicode/utf8.first", laid_unicode_utf8_first)] }
def WriterReadsSaid : Prop := writerReadsRow.holds Tryz.pinned (OpenSpec.ofChange writerReadsSpec)

/-- ITS FALSE NEIGHBOUR: 'it returns false'. Refute it at one input. -/
def writerReadsWrong : ChangeSpec := { name := "writerReads", fn := fun _ => fun
  | [d1, d2, d3, d4, d5] => { results := [.lit (.bool false)], args := [d1, d2, d3, d4, d5] }
  | _ => none }
def WriterReadsWrongFalsely : Prop := writerReadsRow.holds Tryz.pinned (OpenSpec.ofChange writerReadsWrong)

/-- 'letterlocklaw17.WriterSteps': WHATEVER THE INPUT: true; the input reads as it did. -/
def writerStepsSpec : ChangeSpec := { name := "writerSteps", fn := fun _ => fun
  | [d1, d2, d3, d4] => { results := [.lit (.bool true)], args := [d1, d2, d3, d4] }
  | _ => none }
def writerStepsRow : OpenClaim := { program := "ytphehoidkmficaagreatdoor", sum := "b4d87e7980b7a50befed00a20b339c52d275906a4d750b4ff60cd16fd6c951bf", func := "letterlock/letterlocklaw17.WriterSteps", spec := "writerSteps", inPlace := ["internal/bytealg.IndexByteString", "internal/bytealg.IndexString", "internal/abi.NoEscape", "internal/bytealg.MakeNoZero"], unfollowed := true, recurses := true, named := ["internal/bytealg.MaxLen", "unicode/utf8.first", "unicode/utf8.acceptRanges"], apart := false, laid := [("unicode/utf8.acceptRanges", laid_unicode_utf8_acceptRanges), ("unicode/utf8.first", laid_unicode_utf8_first)] }
def WriterStepsSaid : Prop := writerStepsRow.holds Tryz.pinned (OpenSpec.ofChange writerStepsSpec)

/-- ITS FALSE NEIGHBOUR: 'it returns false'. Refute it at one input. -/
def writerStepsWrong : ChangeSpec := { name := "writerSteps", fn := fun _ => fun
  | [d1, d2, d3, d4] => { results := [.lit (.bool false)], args := [d1, d2, d3, d4] }
  | _ => none }
def WriterStepsWrongFalsely : Prop := writerStepsRow.holds Tryz.pinned (OpenSpec.ofChange writerStepsWrong)

/- THE SECOND FORM. 'bulk': how many values and letters a reading holds, each counted each time it is reached (what is shared counts as often as it is met; a slice's spare places count too). A statement '..UptoSaid' is the law's where the arguments, and the package variables that the reading takes, are together of bulk at most 1048576: NARROWER than '..Said'. Prove '..Said' where nothing that the law and all that it calls make is longer than what came in: it says more and counts as full. Else prove '..UptoSaid'. A law counts once. -/
mutual
def uptoBulk {H : Type} : DataW H → Nat
  | .lit (.string bytes) => bytes.length + 1
  | .lit _ => 1
  | .nil => 1
  | .ptr d => uptoBulk d + 1
  | .slice elems spare => uptoBulkAll elems + uptoBulkAll spare + 1
  | .agg parts => uptoBulkAll parts + 1
  | .iface _ d => uptoBulk d + 1
  | .map entries => uptoBulkEntries entries + 1
  | .held _ => 1
def uptoBulkAll {H : Type} : List (DataW H) → Nat
  | [] => 0
  | d :: r => uptoBulk d + uptoBulkAll r
def uptoBulkEntries {H : Type} : List (Lit × DataW H) → Nat
  | [] => 0
  | x :: r => uptoBulkEntry x + uptoBulkEntries r
def uptoBulkEntry {H : Type} : Lit × DataW H → Nat
  | (.string bytes, d) => bytes.length + uptoBulk d + 1
  | (_, d) => uptoBulk d + 1
 end
def uptoSmall : (H : Type) → List (DataW H) → Bool := fun _ ds => decide (uptoBulkAll ds ≤ 1048576)
def OpenSpec.upto (s : _root_.Go.ChangeSpec) : _root_.Go.OpenSpec := { _root_.Go.OpenSpec.ofChange s with cond := some uptoSmall }

/-- 'letterlocklaw9.DataTells', WHERE WHAT IT READS IS OF BULK AT MOST 1048576: true; the input reads as it did. -/
def dataTellsUptoRow : OpenClaim := { program := "ytphehoidkmficaagreatdoor", sum := "b4d87e7980b7a50befed00a20b339c52d275906a4d750b4ff60cd16fd6c951bf", func := "letterlock/letterlocklaw9.DataTells", spec := "dataTells", inPlace := ["internal/bytealg.IndexByteString", "internal/bytealg.IndexString", "internal/abi.NoEscape", "internal/bytealg.MakeNoZero"], unfollowed := true, recurses := true, named := ["internal/bytealg.MaxLen", "unicode/utf8.first", "unicode/utf8.acceptRanges"], apart := false, laid := [("unicode/utf8.acceptRanges", laid_unicode_utf8_acceptRanges), ("unicode/utf8.first", laid_unicode_utf8_first)], narrowed := true }
def DataTellsUptoSaid : Prop := dataTellsUptoRow.holds Tryz.pinned (OpenSpec.upto dataTellsSpec)

/-- 'letterlocklaw17.WriterOpens', WHERE WHAT IT READS IS OF BULK AT MOST 1048576: true; the input reads as it did. -/
def writerOpensUptoRow : OpenClaim := { program := "ytphehoidkmficaagreatdoor", sum := "b4d87e7980b7a50befed00a20b339c52d275906a4d750b4ff60cd16fd6c951bf", func := "letterlock/letterlocklaw17.WriterOpens", spec := "writerOpens", inPlace := ["internal/bytealg.IndexByteString", "internal/bytealg.IndexString", "internal/abi.NoEscape", "internal/bytealg.MakeNoZero"], unfollowed := true, recurses := true, named := ["internal/bytealg.MaxLen", "unicode/utf8.first", "unicode/utf8.acceptRanges"], apart := false, laid := [("unicode/utf8.acceptRanges", laid_unicode_utf8_acceptRanges), ("unicode/utf8.first", laid_unicode_utf8_first)], narrowed := true }
def WriterOpensUptoSaid : Prop := writerOpensUptoRow.holds Tryz.pinned (OpenSpec.upto writerOpensSpec)

/-- 'letterlocklaw17.WriterTells', WHERE WHAT IT READS IS OF BULK AT MOST 1048576: true; the input reads as it did. -/
def writerTellsUptoRow : OpenClaim := { program := "ytphehoidkmficaagreatdoor", sum := "b4d87e7980b7a50befed00a20b339c52d275906a4d750b4ff60cd16fd6c951bf", func := "letterlock/letterlocklaw17.WriterTells", spec := "writerTells", inPlace := ["internal/bytealg.IndexByteString", "internal/bytealg.IndexString", "internal/abi.NoEscape", "internal/bytealg.MakeNoZero"], unfollowed := true, recurses := true, named := ["internal/bytealg.MaxLen", "unicode/utf8.first", "unicode/utf8.acceptRanges"], apart := false, laid := [("unicode/utf8.acceptRanges", laid_unicode_utf8_acceptRanges), ("unicode/utf8.first", laid_unicode_utf8_first)], narrowed := true }
def WriterTellsUptoSaid : Prop := writerTellsUptoRow.holds Tryz.pinned (OpenSpec.upto writerTellsSpec)

/-- 'letterlocklaw17.WriterRenews', WHERE WHAT IT READS IS OF BULK AT MOST 1048576: true; the input reads as it did. -/
def writerRenewsUptoRow : OpenClaim := { program := "ytphehoidkmficaagreatdoor", sum := "b4d87e7980b7a50befed00a20b339c52d275906a4d750b4ff60cd16fd6c951bf", func := "letterlock/letterlocklaw17.WriterRenews", spec := "writerRenews", inPlace := ["internal/bytealg.IndexByteString", "internal/bytealg.IndexString", "internal/abi.NoEscape", "internal/bytealg.MakeNoZero"], unfollowed := true, recurses := true, named := ["internal/bytealg.MaxLen", "unicode/utf8.first", "unicode/utf8.acceptRanges"], apart := false, laid := [("unicode/utf8.acceptRanges", laid_unicode_utf8_acceptRanges), ("unicode/utf8.first", laid_unicode_utf8_first)], narrowed := true }
def WriterRenewsUptoSaid : Prop := writerRenewsUptoRow.holds Tryz.pinned (OpenSpec.upto writerRenewsSpec)

/-- 'letterlocklaw17.WriterReads', WHERE WHAT IT READS IS OF BULK AT MOST 1048576: true; the input reads as it did. -/
def writerReadsUptoRow : OpenClaim := { program := "ytphehoidkmficaagreatdoor", sum := "b4d87e7980b7a50befed00a20b339c52d275906a4d750b4ff60cd16fd6c951bf", func := "letterlock/letterlocklaw17.WriterReads", spec := "writerReads", inPlace := ["internal/bytealg.IndexByteString", "internal/bytealg.IndexString", "internal/abi.NoEscape", "internal/bytealg.MakeNoZero"], unfollowed := true, recurses := true, named := ["internal/bytealg.MaxLen", "unicode/utf8.first", "unicode/utf8.acceptRanges"], apart := false, laid := [("unicode/utf8.acceptRanges", laid_unicode_utf8_acceptRanges), ("unicode/utf8.first", laid_unicode_utf8_first)], narrowed := true }
def WriterReadsUptoSaid : Prop := writerReadsUptoRow.holds Tryz.pinned (OpenSpec.upto writerReadsSpec)

/-- 'letterlocklaw17.WriterSteps', WHERE WHAT IT READS IS OF BULK AT MOST 1048576: true; the input reads as it did. -/
def writerStepsUptoRow : OpenClaim := { program := "ytphehoidkmficaagreatdoor", sum := "b4d87e7980b7a50befed00a20b339c52d275906a4d750b4ff60cd16fd6c951bf", func := "letterlock/letterlocklaw17.WriterSteps", spec := "writerSteps", inPlace := ["internal/bytealg.IndexByteString", "internal/bytealg.IndexString", "internal/abi.NoEscape", "internal/bytealg.MakeNoZero"], unfollowed := true, recurses := true, named := ["internal/bytealg.MaxLen", "unicode/utf8.first", "unicode/utf8.acceptRanges"], apart := false, laid := [("unicode/utf8.acceptRanges", laid_unicode_utf8_acceptRanges), ("unicode/utf8.first", laid_unicode_utf8_first)], narrowed := true }
def WriterStepsUptoSaid : Prop := writerStepsUptoRow.holds Tryz.pinned (OpenSpec.upto writerStepsSpec)

end Rows
end Go.Proofs.YtphehoidkmficaaGreatDoor
