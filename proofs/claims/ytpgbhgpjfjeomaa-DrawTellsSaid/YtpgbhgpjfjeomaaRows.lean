/-
  No cell of these rows narrows 'for every input' (looked for: loops, veiled, ifaces, maps, wideKeys, modest, calm, conditions, laid).
  DERIVED. THE GIVEN ROWS OF THIS SEAT. 6 by the template 'for every input the law returns true; each argument reads behind the call as it read before'; 0 by the template 'total and deterministic' (their statements: YtpgbhgpjfjeomaaTotals.lean).
  GIVEN WITH THE SEED: the statements are not yours to turn. If you find one false, say at which input.
  Laid BY PROGRAM, IN A SANDBOX (cutbox-rows.mjs): the forced cells as the released guide's own fill.sh prints them over the translation a3d75c73474d2035… (all of the seat's roots in one cut). By AI agents, Wed Nov 11 2026. No macro, syntax, notation, axiom, sorry.
-/
import Derived.Test.YtpgbhgpjfjeomaaChecked
import GoSem.Claim
import GoSem.ClaimJoined
import GoSem.ClaimMapViews
import Derived.JoinedTies
import Derived.KernelRfl
namespace Go.Proofs.Ytpgbhgpjfjeomaa
/- THE CELL 'sum', in the pinned program and in every row, IS THE sha256 OF THE DUMP (.gsa) THAT YtpgbhgpjfjeomaaProg.lean LOADS. Nothing in Lean hashes anything: it is a label: what it is worth is what the hold of that sum in a sandbox is worth. -/
noncomputable def Try.pinned : Pinned := { name := "ytpgbhgpjfjeomaa", sum := "a3d75c73474d20356dfaa47da0f82aa2d37e950efe3f1d19effdd6f8bf1665e9", checked := Try.checked }
namespace Rows
def none {H : Type} : Left H := { results := [], args := [] }

/-- 'letterlocklaw6.RegressJoins': WHATEVER THE INPUT: true; the input reads as it did. -/
def regressJoinsSpec : ChangeSpec := { name := "regressJoins", fn := fun _ => fun
  | [d1, d2, d3] => { results := [.lit (.bool true)], args := [d1, d2, d3] }
  | _ => none }
def regressJoinsRow : OpenClaim := { program := "ytpgbhgpjfjeomaa", sum := "a3d75c73474d20356dfaa47da0f82aa2d37e950efe3f1d19effdd6f8bf1665e9", func := "letterlock/letterlocklaw6.RegressJoins", spec := "regressJoins", unfollowed := true, recurses := true, apart := false }
def RegressJoinsSaid : Prop := regressJoinsRow.holds Try.pinned (OpenSpec.ofChange regressJoinsSpec)

/-- ITS FALSE NEIGHBOUR: 'it returns false'. Refute it at one input. -/
def regressJoinsWrong : ChangeSpec := { name := "regressJoins", fn := fun _ => fun
  | [d1, d2, d3] => { results := [.lit (.bool false)], args := [d1, d2, d3] }
  | _ => none }
def RegressJoinsWrongFalsely : Prop := regressJoinsRow.holds Try.pinned (OpenSpec.ofChange regressJoinsWrong)

/-- 'letterlocklaw5.DrawSecret': WHATEVER THE INPUT: true; the input reads as it did. -/
def drawSecretSpec : ChangeSpec := { name := "drawSecret", fn := fun _ => fun
  | [d1, d2, d3] => { results := [.lit (.bool true)], args := [d1, d2, d3] }
  | _ => none }
def drawSecretRow : OpenClaim := { program := "ytpgbhgpjfjeomaa", sum := "a3d75c73474d20356dfaa47da0f82aa2d37e950efe3f1d19effdd6f8bf1665e9", func := "letterlock/letterlocklaw5.DrawSecret", spec := "drawSecret", inPlace := ["internal/abi.NoEscape", "internal/bytealg.MakeNoZero"], unfollowed := true, recurses := true, apart := false }
def DrawSecretSaid : Prop := drawSecretRow.holds Try.pinned (OpenSpec.ofChange drawSecretSpec)

/-- ITS FALSE NEIGHBOUR: 'it returns false'. Refute it at one input. -/
def drawSecretWrong : ChangeSpec := { name := "drawSecret", fn := fun _ => fun
  | [d1, d2, d3] => { results := [.lit (.bool false)], args := [d1, d2, d3] }
  | _ => none }
def DrawSecretWrongFalsely : Prop := drawSecretRow.holds Try.pinned (OpenSpec.ofChange drawSecretWrong)

/-- 'letterlocklaw5.DrawTells': WHATEVER THE INPUT: true; the input reads as it did. -/
def drawTellsSpec : ChangeSpec := { name := "drawTells", fn := fun _ => fun
  | [d1, d2, d3, d4, d5] => { results := [.lit (.bool true)], args := [d1, d2, d3, d4, d5] }
  | _ => none }
def drawTellsRow : OpenClaim := { program := "ytpgbhgpjfjeomaa", sum := "a3d75c73474d20356dfaa47da0f82aa2d37e950efe3f1d19effdd6f8bf1665e9", func := "letterlock/letterlocklaw5.DrawTells", spec := "drawTells", inPlace := ["internal/abi.NoEscape", "internal/bytealg.MakeNoZero"], unfollowed := true, recurses := true, apart := false }
def DrawTellsSaid : Prop := drawTellsRow.holds Try.pinned (OpenSpec.ofChange drawTellsSpec)

/-- ITS FALSE NEIGHBOUR: 'it returns false'. Refute it at one input. -/
def drawTellsWrong : ChangeSpec := { name := "drawTells", fn := fun _ => fun
  | [d1, d2, d3, d4, d5] => { results := [.lit (.bool false)], args := [d1, d2, d3, d4, d5] }
  | _ => none }
def DrawTellsWrongFalsely : Prop := drawTellsRow.holds Try.pinned (OpenSpec.ofChange drawTellsWrong)

/-- 'letterlocklaw6.RegressTells': WHATEVER THE INPUT: true; the input reads as it did. -/
def regressTellsSpec : ChangeSpec := { name := "regressTells", fn := fun _ => fun
  | [d1, d2, d3, d4] => { results := [.lit (.bool true)], args := [d1, d2, d3, d4] }
  | _ => none }
def regressTellsRow : OpenClaim := { program := "ytpgbhgpjfjeomaa", sum := "a3d75c73474d20356dfaa47da0f82aa2d37e950efe3f1d19effdd6f8bf1665e9", func := "letterlock/letterlocklaw6.RegressTells", spec := "regressTells", inPlace := ["internal/abi.NoEscape", "internal/bytealg.MakeNoZero"], unfollowed := true, recurses := true, apart := false }
def RegressTellsSaid : Prop := regressTellsRow.holds Try.pinned (OpenSpec.ofChange regressTellsSpec)

/-- ITS FALSE NEIGHBOUR: 'it returns false'. Refute it at one input. -/
def regressTellsWrong : ChangeSpec := { name := "regressTells", fn := fun _ => fun
  | [d1, d2, d3, d4] => { results := [.lit (.bool false)], args := [d1, d2, d3, d4] }
  | _ => none }
def RegressTellsWrongFalsely : Prop := regressTellsRow.holds Try.pinned (OpenSpec.ofChange regressTellsWrong)

/-- 'letterlocklaw6.RegressErrs': WHATEVER THE INPUT: true; the input reads as it did. -/
def regressErrsSpec : ChangeSpec := { name := "regressErrs", fn := fun _ => fun
  | [d1, d2, d3, d4] => { results := [.lit (.bool true)], args := [d1, d2, d3, d4] }
  | _ => none }
def regressErrsRow : OpenClaim := { program := "ytpgbhgpjfjeomaa", sum := "a3d75c73474d20356dfaa47da0f82aa2d37e950efe3f1d19effdd6f8bf1665e9", func := "letterlock/letterlocklaw6.RegressErrs", spec := "regressErrs", inPlace := ["internal/abi.NoEscape", "internal/bytealg.MakeNoZero"], unfollowed := true, recurses := true, apart := false }
def RegressErrsSaid : Prop := regressErrsRow.holds Try.pinned (OpenSpec.ofChange regressErrsSpec)

/-- ITS FALSE NEIGHBOUR: 'it returns false'. Refute it at one input. -/
def regressErrsWrong : ChangeSpec := { name := "regressErrs", fn := fun _ => fun
  | [d1, d2, d3, d4] => { results := [.lit (.bool false)], args := [d1, d2, d3, d4] }
  | _ => none }
def RegressErrsWrongFalsely : Prop := regressErrsRow.holds Try.pinned (OpenSpec.ofChange regressErrsWrong)

/-- 'letterlocklaw6.RegressLeads': WHATEVER THE INPUT: true; the input reads as it did. -/
def regressLeadsSpec : ChangeSpec := { name := "regressLeads", fn := fun _ => fun
  | [d1, d2, d3] => { results := [.lit (.bool true)], args := [d1, d2, d3] }
  | _ => none }
def regressLeadsRow : OpenClaim := { program := "ytpgbhgpjfjeomaa", sum := "a3d75c73474d20356dfaa47da0f82aa2d37e950efe3f1d19effdd6f8bf1665e9", func := "letterlock/letterlocklaw6.RegressLeads", spec := "regressLeads", inPlace := ["internal/abi.NoEscape", "internal/bytealg.MakeNoZero"], unfollowed := true, recurses := true, apart := false }
def RegressLeadsSaid : Prop := regressLeadsRow.holds Try.pinned (OpenSpec.ofChange regressLeadsSpec)

/-- ITS FALSE NEIGHBOUR: 'it returns false'. Refute it at one input. -/
def regressLeadsWrong : ChangeSpec := { name := "regressLeads", fn := fun _ => fun
  | [d1, d2, d3] => { results := [.lit (.bool false)], args := [d1, d2, d3] }
  | _ => none }
def RegressLeadsWrongFalsely : Prop := regressLeadsRow.holds Try.pinned (OpenSpec.ofChange regressLeadsWrong)

/- THE SECOND FORM. 'bulk': how many values and letters a reading holds, each counted each time it is reached (what is shared counts as often as it is met; a slice's spare places count too). A statement '..UptoSaid' is the law's where the arguments, and the package variables that the reading takes, are together of bulk at most 1048576: NARROWER than '..Said'. Prove '..Said' where nothing that the law and all that it calls make is longer than what came in: it says more and counts as full. Else prove '..UptoSaid'. A law counts once. -/
mutual
def uptoBulk {H : Type} : DataW H → Nat
  | .lit (.string bytes) => bytes.length + 1
  | .lit _ => 1
  | .nil => 1
  | .ptr d => uptoBulk d + 1
  | .slice elems spare => uptoBulkAll elems + uptoBulkAll spare + 1
  | .agg parts => uptoBulkAll parts + 1
  | .iface _ d => uptoBulk d + 1
  | .map entries => uptoBulkEntries entries + 1
  | .held _ => 1
def uptoBulkAll {H : Type} : List (DataW H) → Nat
  | [] => 0
  | d :: r => uptoBulk d + uptoBulkAll r
def uptoBulkEntries {H : Type} : List (Lit × DataW H) → Nat
  | [] => 0
  | x :: r => uptoBulkEntry x + uptoBulkEntries r
def uptoBulkEntry {H : Type} : Lit × DataW H → Nat
  | (.string bytes, d) => bytes.length + uptoBulk d + 1
  | (_, d) => uptoBulk d + 1
 end
def uptoSmall : (H : Type) → List (DataW H) → Bool := fun _ ds => decide (uptoBulkAll ds ≤ 1048576)
def OpenSpec.upto (s : _root_.Go.ChangeSpec) : _root_.Go.OpenSpec := { _root_.Go.OpenSpec.ofChange s with cond := some uptoSmall }

/-- 'letterlocklaw6.RegressJoins', WHERE WHAT IT READS IS OF BULK AT MOST 1048576: true; the input reads as it did. -/
def regressJoinsUptoRow : OpenClaim := { program := "ytpgbhgpjfjeomaa", sum := "a3d75c73474d20356dfaa47da0f82aa2d37e950efe3f1d19effdd6f8bf1665e9", func := "letterlock/letterlocklaw6.RegressJoins", spec := "regressJoins", unfollowed := true, recurses := true, apart := false, narrowed := true }
def RegressJoinsUptoSaid : Prop := regressJoinsUptoRow.holds Try.pinned (OpenSpec.upto regressJoinsSpec)

/-- 'letterlocklaw5.DrawSecret', WHERE WHAT IT READS IS OF BULK AT MOST 1048576: true; the input reads as it did. -/
def drawSecretUptoRow : OpenClaim := { program := "ytpgbhgpjfjeomaa", sum := "a3d75c73474d20356dfaa47da0f82aa2d37e950efe3f1d19effdd6f8bf1665e9", func := "letterlock/letterlocklaw5.DrawSecret", spec := "drawSecret", inPlace := ["internal/abi.NoEscape", "internal/bytealg.MakeNoZero"], unfollowed := true, recurses := true, apart := false, narrowed := true }
def DrawSecretUptoSaid : Prop := drawSecretUptoRow.holds Try.pinned (OpenSpec.upto drawSecretSpec)

/-- 'letterlocklaw5.DrawTells', WHERE WHAT IT READS IS OF BULK AT MOST 1048576: true; the input reads as it did. -/
def drawTellsUptoRow : OpenClaim := { program := "ytpgbhgpjfjeomaa", sum := "a3d75c73474d20356dfaa47da0f82aa2d37e950efe3f1d19effdd6f8bf1665e9", func := "letterlock/letterlocklaw5.DrawTells", spec := "drawTells", inPlace := ["internal/abi.NoEscape", "internal/bytealg.MakeNoZero"], unfollowed := true, recurses := true, apart := false, narrowed := true }
def DrawTellsUptoSaid : Prop := drawTellsUptoRow.holds Try.pinned (OpenSpec.upto drawTellsSpec)

/-- 'letterlocklaw6.RegressTells', WHERE WHAT IT READS IS OF BULK AT MOST 1048576: true; the input reads as it did. -/
def regressTellsUptoRow : OpenClaim := { program := "ytpgbhgpjfjeomaa", sum := "a3d75c73474d20356dfaa47da0f82aa2d37e950efe3f1d19effdd6f8bf1665e9", func := "letterlock/letterlocklaw6.RegressTells", spec := "regressTells", inPlace := ["internal/abi.NoEscape", "internal/bytealg.MakeNoZero"], unfollowed := true, recurses := true, apart := false, narrowed := true }
def RegressTellsUptoSaid : Prop := regressTellsUptoRow.holds Try.pinned (OpenSpec.upto regressTellsSpec)

/-- 'letterlocklaw6.RegressErrs', WHERE WHAT IT READS IS OF BULK AT MOST 1048576: true; the input reads as it did. -/
def regressErrsUptoRow : OpenClaim := { program := "ytpgbhgpjfjeomaa", sum := "a3d75c73474d20356dfaa47da0f82aa2d37e950efe3f1d19effdd6f8bf1665e9", func := "letterlock/letterlocklaw6.RegressErrs", spec := "regressErrs", inPlace := ["internal/abi.NoEscape", "internal/bytealg.MakeNoZero"], unfollowed := true, recurses := true, apart := false, narrowed := true }
def RegressErrsUptoSaid : Prop := regressErrsUptoRow.holds Try.pinned (OpenSpec.upto regressErrsSpec)

/-- 'letterlocklaw6.RegressLeads', WHERE WHAT IT READS IS OF BULK AT MOST 1048576: true; the input reads as it did. -/
def regressLeadsUptoRow : OpenClaim := { program := "ytpgbhgpjfjeomaa", sum := "a3d75c73474d20356dfaa47da0f82aa2d37e950efe3f1d19effdd6f8bf1665e9", func := "letterlock/letterlocklaw6.RegressLeads", spec := "regressLeads", inPlace := ["internal/abi.NoEscape", "internal/bytealg.MakeNoZero"], unfollowed := true, recurses := true, apart := false, narrowed := true }
def RegressLeadsUptoSaid : Prop := regressLeadsUptoRow.holds Try.pinned (OpenSpec.upto regressLeadsSpec)

end Rows
end Go.Proofs.Ytpgbhgpjfjeomaa
