/-
  No cell of these rows narrows 'for every input' (looked for: loops, veiled, ifaces, maps, wideKeys, modest, calm, conditions, laid).
  DERIVED. THE GIVEN ROWS OF THIS SEAT. 10 by the template 'for every input the law returns true; each argument reads behind the call as it read before'; 0 by the template 'total and deterministic' (their statements: YtnieihhnchefdaaTotals.lean).
  GIVEN WITH THE SEED: the statements are not yours to turn. If you find one false, say at which input.
  Laid BY PROGRAM, IN A SANDBOX (cutbox-rows.mjs): the forced cells as the released guide's own fill.sh prints them over the translation 35631245fdcc30c4… (all of the seat's roots in one cut). By AI agents, Wed Nov 11 2026. No macro, syntax, notation, axiom, sorry.
-/
import Derived.Test.YtnieihhnchefdaaChecked
import GoSem.Claim
import GoSem.ClaimJoined
import GoSem.ClaimMapViews
import Derived.JoinedTies
import Derived.KernelRfl
namespace Go.Proofs.Ytnieihhnchefdaa
/- THE CELL 'sum', in the pinned program and in every row, IS THE sha256 OF THE DUMP (.gsa) THAT YtnieihhnchefdaaProg.lean LOADS. Nothing in Lean hashes anything: it is a label: what it is worth is what the hold of that sum in a sandbox is worth. -/
noncomputable def Try.pinned : Pinned := { name := "ytnieihhnchefdaa", sum := "35631245fdcc30c4c2fe1e8488f8ace719add1cb4af07002518fbe561a6b282f", checked := Try.checked }
namespace Rows
def none {H : Type} : Left H := { results := [], args := [] }

/-- 'letterlocklaw4.ClosureBoxes': WHATEVER THE INPUT: true; the input reads as it did. -/
def closureBoxesSpec : ChangeSpec := { name := "closureBoxes", fn := fun _ => fun
  | [d1, d2, d3] => { results := [.lit (.bool true)], args := [d1, d2, d3] }
  | _ => none }
def closureBoxesRow : OpenClaim := { program := "ytnieihhnchefdaa", sum := "35631245fdcc30c4c2fe1e8488f8ace719add1cb4af07002518fbe561a6b282f", func := "letterlock/letterlocklaw4.ClosureBoxes", spec := "closureBoxes", unfollowed := true, recurses := true, apart := false }
def ClosureBoxesSaid : Prop := closureBoxesRow.holds Try.pinned (OpenSpec.ofChange closureBoxesSpec)

/-- ITS FALSE NEIGHBOUR: 'it returns false'. Refute it at one input. -/
def closureBoxesWrong : ChangeSpec := { name := "closureBoxes", fn := fun _ => fun
  | [d1, d2, d3] => { results := [.lit (.bool false)], args := [d1, d2, d3] }
  | _ => none }
def ClosureBoxesWrongFalsely : Prop := closureBoxesRow.holds Try.pinned (OpenSpec.ofChange closureBoxesWrong)

/-- 'letterlocklaw4.ClosureTells': WHATEVER THE INPUT: true; the input reads as it did. -/
def closureTellsSpec : ChangeSpec := { name := "closureTells", fn := fun _ => fun
  | [d1, d2, d3, d4] => { results := [.lit (.bool true)], args := [d1, d2, d3, d4] }
  | _ => none }
def closureTellsRow : OpenClaim := { program := "ytnieihhnchefdaa", sum := "35631245fdcc30c4c2fe1e8488f8ace719add1cb4af07002518fbe561a6b282f", func := "letterlock/letterlocklaw4.ClosureTells", spec := "closureTells", unfollowed := true, recurses := true, apart := false }
def ClosureTellsSaid : Prop := closureTellsRow.holds Try.pinned (OpenSpec.ofChange closureTellsSpec)

/-- ITS FALSE NEIGHBOUR: 'it returns false'. Refute it at one input. -/
def closureTellsWrong : ChangeSpec := { name := "closureTells", fn := fun _ => fun
  | [d1, d2, d3, d4] => { results := [.lit (.bool false)], args := [d1, d2, d3, d4] }
  | _ => none }
def ClosureTellsWrongFalsely : Prop := closureTellsRow.holds Try.pinned (OpenSpec.ofChange closureTellsWrong)

/-- 'letterlocklaw4.ClosureGrows': WHATEVER THE INPUT: true; the input reads as it did. -/
def closureGrowsSpec : ChangeSpec := { name := "closureGrows", fn := fun _ => fun
  | [d1, d2, d3, d4] => { results := [.lit (.bool true)], args := [d1, d2, d3, d4] }
  | _ => none }
def closureGrowsRow : OpenClaim := { program := "ytnieihhnchefdaa", sum := "35631245fdcc30c4c2fe1e8488f8ace719add1cb4af07002518fbe561a6b282f", func := "letterlock/letterlocklaw4.ClosureGrows", spec := "closureGrows", unfollowed := true, recurses := true, apart := false }
def ClosureGrowsSaid : Prop := closureGrowsRow.holds Try.pinned (OpenSpec.ofChange closureGrowsSpec)

/-- ITS FALSE NEIGHBOUR: 'it returns false'. Refute it at one input. -/
def closureGrowsWrong : ChangeSpec := { name := "closureGrows", fn := fun _ => fun
  | [d1, d2, d3, d4] => { results := [.lit (.bool false)], args := [d1, d2, d3, d4] }
  | _ => none }
def ClosureGrowsWrongFalsely : Prop := closureGrowsRow.holds Try.pinned (OpenSpec.ofChange closureGrowsWrong)

/-- 'letterlocklaw4.ClosureOrder': WHATEVER THE INPUT: true; the input reads as it did. -/
def closureOrderSpec : ChangeSpec := { name := "closureOrder", fn := fun _ => fun
  | [d1, d2, d3] => { results := [.lit (.bool true)], args := [d1, d2, d3] }
  | _ => none }
def closureOrderRow : OpenClaim := { program := "ytnieihhnchefdaa", sum := "35631245fdcc30c4c2fe1e8488f8ace719add1cb4af07002518fbe561a6b282f", func := "letterlock/letterlocklaw4.ClosureOrder", spec := "closureOrder", unfollowed := true, recurses := true, apart := false }
def ClosureOrderSaid : Prop := closureOrderRow.holds Try.pinned (OpenSpec.ofChange closureOrderSpec)

/-- ITS FALSE NEIGHBOUR: 'it returns false'. Refute it at one input. -/
def closureOrderWrong : ChangeSpec := { name := "closureOrder", fn := fun _ => fun
  | [d1, d2, d3] => { results := [.lit (.bool false)], args := [d1, d2, d3] }
  | _ => none }
def ClosureOrderWrongFalsely : Prop := closureOrderRow.holds Try.pinned (OpenSpec.ofChange closureOrderWrong)

/-- 'letterlocklaw4.ClosureMany': WHATEVER THE INPUT: true; the input reads as it did. -/
def closureManySpec : ChangeSpec := { name := "closureMany", fn := fun _ => fun
  | [d1, d2] => { results := [.lit (.bool true)], args := [d1, d2] }
  | _ => none }
def closureManyRow : OpenClaim := { program := "ytnieihhnchefdaa", sum := "35631245fdcc30c4c2fe1e8488f8ace719add1cb4af07002518fbe561a6b282f", func := "letterlock/letterlocklaw4.ClosureMany", spec := "closureMany", unfollowed := true, recurses := true, apart := false }
def ClosureManySaid : Prop := closureManyRow.holds Try.pinned (OpenSpec.ofChange closureManySpec)

/-- ITS FALSE NEIGHBOUR: 'it returns false'. Refute it at one input. -/
def closureManyWrong : ChangeSpec := { name := "closureMany", fn := fun _ => fun
  | [d1, d2] => { results := [.lit (.bool false)], args := [d1, d2] }
  | _ => none }
def ClosureManyWrongFalsely : Prop := closureManyRow.holds Try.pinned (OpenSpec.ofChange closureManyWrong)

/-- 'letterlocklaw4.ClosureParts': WHATEVER THE INPUT: true; the input reads as it did. -/
def closurePartsSpec : ChangeSpec := { name := "closureParts", fn := fun _ => fun
  | [d1, d2, d3] => { results := [.lit (.bool true)], args := [d1, d2, d3] }
  | _ => none }
def closurePartsRow : OpenClaim := { program := "ytnieihhnchefdaa", sum := "35631245fdcc30c4c2fe1e8488f8ace719add1cb4af07002518fbe561a6b282f", func := "letterlock/letterlocklaw4.ClosureParts", spec := "closureParts", unfollowed := true, recurses := true, apart := false }
def ClosurePartsSaid : Prop := closurePartsRow.holds Try.pinned (OpenSpec.ofChange closurePartsSpec)

/-- ITS FALSE NEIGHBOUR: 'it returns false'. Refute it at one input. -/
def closurePartsWrong : ChangeSpec := { name := "closureParts", fn := fun _ => fun
  | [d1, d2, d3] => { results := [.lit (.bool false)], args := [d1, d2, d3] }
  | _ => none }
def ClosurePartsWrongFalsely : Prop := closurePartsRow.holds Try.pinned (OpenSpec.ofChange closurePartsWrong)

/-- 'letterlocklaw4.ClosureKeys': WHATEVER THE INPUT: true; the input reads as it did. -/
def closureKeysSpec : ChangeSpec := { name := "closureKeys", fn := fun _ => fun
  | [d1, d2, d3] => { results := [.lit (.bool true)], args := [d1, d2, d3] }
  | _ => none }
def closureKeysRow : OpenClaim := { program := "ytnieihhnchefdaa", sum := "35631245fdcc30c4c2fe1e8488f8ace719add1cb4af07002518fbe561a6b282f", func := "letterlock/letterlocklaw4.ClosureKeys", spec := "closureKeys", unfollowed := true, recurses := true, apart := false }
def ClosureKeysSaid : Prop := closureKeysRow.holds Try.pinned (OpenSpec.ofChange closureKeysSpec)

/-- ITS FALSE NEIGHBOUR: 'it returns false'. Refute it at one input. -/
def closureKeysWrong : ChangeSpec := { name := "closureKeys", fn := fun _ => fun
  | [d1, d2, d3] => { results := [.lit (.bool false)], args := [d1, d2, d3] }
  | _ => none }
def ClosureKeysWrongFalsely : Prop := closureKeysRow.holds Try.pinned (OpenSpec.ofChange closureKeysWrong)

/-- 'letterlocklaw5.DrawHides': WHATEVER THE INPUT: true; the input reads as it did. -/
def drawHidesSpec : ChangeSpec := { name := "drawHides", fn := fun _ => fun
  | [d1, d2, d3, d4, d5, d6] => { results := [.lit (.bool true)], args := [d1, d2, d3, d4, d5, d6] }
  | _ => none }
def drawHidesRow : OpenClaim := { program := "ytnieihhnchefdaa", sum := "35631245fdcc30c4c2fe1e8488f8ace719add1cb4af07002518fbe561a6b282f", func := "letterlock/letterlocklaw5.DrawHides", spec := "drawHides", inPlace := ["internal/abi.NoEscape", "internal/bytealg.MakeNoZero"], unfollowed := true, recurses := true, apart := false }
def DrawHidesSaid : Prop := drawHidesRow.holds Try.pinned (OpenSpec.ofChange drawHidesSpec)

/-- ITS FALSE NEIGHBOUR: 'it returns false'. Refute it at one input. -/
def drawHidesWrong : ChangeSpec := { name := "drawHides", fn := fun _ => fun
  | [d1, d2, d3, d4, d5, d6] => { results := [.lit (.bool false)], args := [d1, d2, d3, d4, d5, d6] }
  | _ => none }
def DrawHidesWrongFalsely : Prop := drawHidesRow.holds Try.pinned (OpenSpec.ofChange drawHidesWrong)

/-- 'letterlocklaw6.RegressHides': WHATEVER THE INPUT: true; the input reads as it did. -/
def regressHidesSpec : ChangeSpec := { name := "regressHides", fn := fun _ => fun
  | [d1, d2, d3] => { results := [.lit (.bool true)], args := [d1, d2, d3] }
  | _ => none }
def regressHidesRow : OpenClaim := { program := "ytnieihhnchefdaa", sum := "35631245fdcc30c4c2fe1e8488f8ace719add1cb4af07002518fbe561a6b282f", func := "letterlock/letterlocklaw6.RegressHides", spec := "regressHides", inPlace := ["internal/abi.NoEscape", "internal/bytealg.MakeNoZero"], unfollowed := true, recurses := true, apart := false }
def RegressHidesSaid : Prop := regressHidesRow.holds Try.pinned (OpenSpec.ofChange regressHidesSpec)

/-- ITS FALSE NEIGHBOUR: 'it returns false'. Refute it at one input. -/
def regressHidesWrong : ChangeSpec := { name := "regressHides", fn := fun _ => fun
  | [d1, d2, d3] => { results := [.lit (.bool false)], args := [d1, d2, d3] }
  | _ => none }
def RegressHidesWrongFalsely : Prop := regressHidesRow.holds Try.pinned (OpenSpec.ofChange regressHidesWrong)

/-- 'letterlocklaw6.RegressKeys': WHATEVER THE INPUT: true; the input reads as it did. -/
def regressKeysSpec : ChangeSpec := { name := "regressKeys", fn := fun _ => fun
  | [d1, d2, d3] => { results := [.lit (.bool true)], args := [d1, d2, d3] }
  | _ => none }
def regressKeysRow : OpenClaim := { program := "ytnieihhnchefdaa", sum := "35631245fdcc30c4c2fe1e8488f8ace719add1cb4af07002518fbe561a6b282f", func := "letterlock/letterlocklaw6.RegressKeys", spec := "regressKeys", inPlace := ["internal/abi.NoEscape", "internal/bytealg.MakeNoZero"], unfollowed := true, recurses := true, apart := false }
def RegressKeysSaid : Prop := regressKeysRow.holds Try.pinned (OpenSpec.ofChange regressKeysSpec)

/-- ITS FALSE NEIGHBOUR: 'it returns false'. Refute it at one input. -/
def regressKeysWrong : ChangeSpec := { name := "regressKeys", fn := fun _ => fun
  | [d1, d2, d3] => { results := [.lit (.bool false)], args := [d1, d2, d3] }
  | _ => none }
def RegressKeysWrongFalsely : Prop := regressKeysRow.holds Try.pinned (OpenSpec.ofChange regressKeysWrong)

/- THE SECOND FORM. 'bulk': how many values and letters a reading holds, each counted each time it is reached (what is shared counts as often as it is met; a slice's spare places count too). A statement '..UptoSaid' is the law's where the arguments, and the package variables that the reading takes, are together of bulk at most 1048576: NARROWER than '..Said'. Prove '..Said' where nothing that the law and all that it calls make is longer than what came in: it says more and counts as full. Else prove '..UptoSaid'. A law counts once. -/
mutual
def uptoBulk {H : Type} : DataW H → Nat
  | .lit (.string bytes) => bytes.length + 1
  | .lit _ => 1
  | .nil => 1
  | .ptr d => uptoBulk d + 1
  | .slice elems spare => uptoBulkAll elems + uptoBulkAll spare + 1
  | .agg parts => uptoBulkAll parts + 1
  | .iface _ d => uptoBulk d + 1
  | .map entries => uptoBulkEntries entries + 1
  | .held _ => 1
def uptoBulkAll {H : Type} : List (DataW H) → Nat
  | [] => 0
  | d :: r => uptoBulk d + uptoBulkAll r
def uptoBulkEntries {H : Type} : List (Lit × DataW H) → Nat
  | [] => 0
  | x :: r => uptoBulkEntry x + uptoBulkEntries r
def uptoBulkEntry {H : Type} : Lit × DataW H → Nat
  | (.string bytes, d) => bytes.length + uptoBulk d + 1
  | (_, d) => uptoBulk d + 1
 end
def uptoSmall : (H : Type) → List (DataW H) → Bool := fun _ ds => decide (uptoBulkAll ds ≤ 1048576)
def OpenSpec.upto (s : _root_.Go.ChangeSpec) : _root_.Go.OpenSpec := { _root_.Go.OpenSpec.ofChange s with cond := some uptoSmall }

/-- 'letterlocklaw4.ClosureBoxes', WHERE WHAT IT READS IS OF BULK AT MOST 1048576: true; the input reads as it did. -/
def closureBoxesUptoRow : OpenClaim := { program := "ytnieihhnchefdaa", sum := "35631245fdcc30c4c2fe1e8488f8ace719add1cb4af07002518fbe561a6b282f", func := "letterlock/letterlocklaw4.ClosureBoxes", spec := "closureBoxes", unfollowed := true, recurses := true, apart := false, narrowed := true }
def ClosureBoxesUptoSaid : Prop := closureBoxesUptoRow.holds Try.pinned (OpenSpec.upto closureBoxesSpec)

/-- 'letterlocklaw4.ClosureTells', WHERE WHAT IT READS IS OF BULK AT MOST 1048576: true; the input reads as it did. -/
def closureTellsUptoRow : OpenClaim := { program := "ytnieihhnchefdaa", sum := "35631245fdcc30c4c2fe1e8488f8ace719add1cb4af07002518fbe561a6b282f", func := "letterlock/letterlocklaw4.ClosureTells", spec := "closureTells", unfollowed := true, recurses := true, apart := false, narrowed := true }
def ClosureTellsUptoSaid : Prop := closureTellsUptoRow.holds Try.pinned (OpenSpec.upto closureTellsSpec)

/-- 'letterlocklaw4.ClosureGrows', WHERE WHAT IT READS IS OF BULK AT MOST 1048576: true; the input reads as it did. -/
def closureGrowsUptoRow : OpenClaim := { program := "ytnieihhnchefdaa", sum := "35631245fdcc30c4c2fe1e8488f8ace719add1cb4af07002518fbe561a6b282f", func := "letterlock/letterlocklaw4.ClosureGrows", spec := "closureGrows", unfollowed := true, recurses := true, apart := false, narrowed := true }
def ClosureGrowsUptoSaid : Prop := closureGrowsUptoRow.holds Try.pinned (OpenSpec.upto closureGrowsSpec)

/-- 'letterlocklaw4.ClosureOrder', WHERE WHAT IT READS IS OF BULK AT MOST 1048576: true; the input reads as it did. -/
def closureOrderUptoRow : OpenClaim := { program := "ytnieihhnchefdaa", sum := "35631245fdcc30c4c2fe1e8488f8ace719add1cb4af07002518fbe561a6b282f", func := "letterlock/letterlocklaw4.ClosureOrder", spec := "closureOrder", unfollowed := true, recurses := true, apart := false, narrowed := true }
def ClosureOrderUptoSaid : Prop := closureOrderUptoRow.holds Try.pinned (OpenSpec.upto closureOrderSpec)

/-- 'letterlocklaw4.ClosureMany', WHERE WHAT IT READS IS OF BULK AT MOST 1048576: true; the input reads as it did. -/
def closureManyUptoRow : OpenClaim := { program := "ytnieihhnchefdaa", sum := "35631245fdcc30c4c2fe1e8488f8ace719add1cb4af07002518fbe561a6b282f", func := "letterlock/letterlocklaw4.ClosureMany", spec := "closureMany", unfollowed := true, recurses := true, apart := false, narrowed := true }
def ClosureManyUptoSaid : Prop := closureManyUptoRow.holds Try.pinned (OpenSpec.upto closureManySpec)

/-- 'letterlocklaw4.ClosureParts', WHERE WHAT IT READS IS OF BULK AT MOST 1048576: true; the input reads as it did. -/
def closurePartsUptoRow : OpenClaim := { program := "ytnieihhnchefdaa", sum := "35631245fdcc30c4c2fe1e8488f8ace719add1cb4af07002518fbe561a6b282f", func := "letterlock/letterlocklaw4.ClosureParts", spec := "closureParts", unfollowed := true, recurses := true, apart := false, narrowed := true }
def ClosurePartsUptoSaid : Prop := closurePartsUptoRow.holds Try.pinned (OpenSpec.upto closurePartsSpec)

/-- 'letterlocklaw4.ClosureKeys', WHERE WHAT IT READS IS OF BULK AT MOST 1048576: true; the input reads as it did. -/
def closureKeysUptoRow : OpenClaim := { program := "ytnieihhnchefdaa", sum := "35631245fdcc30c4c2fe1e8488f8ace719add1cb4af07002518fbe561a6b282f", func := "letterlock/letterlocklaw4.ClosureKeys", spec := "closureKeys", unfollowed := true, recurses := true, apart := false, narrowed := true }
def ClosureKeysUptoSaid : Prop := closureKeysUptoRow.holds Try.pinned (OpenSpec.upto closureKeysSpec)

/-- 'letterlocklaw5.DrawHides', WHERE WHAT IT READS IS OF BULK AT MOST 1048576: true; the input reads as it did. -/
def drawHidesUptoRow : OpenClaim := { program := "ytnieihhnchefdaa", sum := "35631245fdcc30c4c2fe1e8488f8ace719add1cb4af07002518fbe561a6b282f", func := "letterlock/letterlocklaw5.DrawHides", spec := "drawHides", inPlace := ["internal/abi.NoEscape", "internal/bytealg.MakeNoZero"], unfollowed := true, recurses := true, apart := false, narrowed := true }
def DrawHidesUptoSaid : Prop := drawHidesUptoRow.holds Try.pinned (OpenSpec.upto drawHidesSpec)

/-- 'letterlocklaw6.RegressHides', WHERE WHAT IT READS IS OF BULK AT MOST 1048576: true; the input reads as it did. -/
def regressHidesUptoRow : OpenClaim := { program := "ytnieihhnchefdaa", sum := "35631245fdcc30c4c2fe1e8488f8ace719add1cb4af07002518fbe561a6b282f", func := "letterlock/letterlocklaw6.RegressHides", spec := "regressHides", inPlace := ["internal/abi.NoEscape", "internal/bytealg.MakeNoZero"], unfollowed := true, recurses := true, apart := false, narrowed := true }
def RegressHidesUptoSaid : Prop := regressHidesUptoRow.holds Try.pinned (OpenSpec.upto regressHidesSpec)

/-- 'letterlocklaw6.RegressKeys', WHERE WHAT IT READS IS OF BULK AT MOST 1048576: true; the input reads as it did. -/
def regressKeysUptoRow : OpenClaim := { program := "ytnieihhnchefdaa", sum := "35631245fdcc30c4c2fe1e8488f8ace719add1cb4af07002518fbe561a6b282f", func := "letterlock/letterlocklaw6.RegressKeys", spec := "regressKeys", inPlace := ["internal/abi.NoEscape", "internal/bytealg.MakeNoZero"], unfollowed := true, recurses := true, apart := false, narrowed := true }
def RegressKeysUptoSaid : Prop := regressKeysUptoRow.holds Try.pinned (OpenSpec.upto regressKeysSpec)

end Rows
end Go.Proofs.Ytnieihhnchefdaa
