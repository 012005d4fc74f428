/-
  No cell of these rows narrows 'for every input' (looked for: loops, veiled, ifaces, maps, wideKeys, modest, calm, conditions, laid).
  DERIVED. THE GIVEN ROWS OF THIS SEAT. 3 by the template 'for every input the law returns true; each argument reads behind the call as it read before'; 0 by the template 'total and deterministic' (their statements: YtnmdceofmlgohaaTotals.lean).
  GIVEN WITH THE SEED: the statements are not yours to turn. If you find one false, say at which input.
  Laid BY PROGRAM, IN A SANDBOX (cutbox-rows.mjs): the forced cells as the released guide's own fill.sh prints them over the translation dfc5a9346415b62c… (all of the seat's roots in one cut). By AI agents, Wed Nov 11 2026. No macro, syntax, notation, axiom, sorry.
-/
import Derived.Test.YtnmdceofmlgohaaChecked
import GoSem.Claim
import GoSem.ClaimJoined
import GoSem.ClaimMapViews
import Derived.JoinedTies
import Derived.KernelRfl
namespace Go.Proofs.Ytnmdceofmlgohaa
/- THE CELL 'sum', in the pinned program and in every row, IS THE sha256 OF THE DUMP (.gsa) THAT YtnmdceofmlgohaaProg.lean LOADS. Nothing in Lean hashes anything: it is a label: what it is worth is what the hold of that sum in a sandbox is worth. -/
noncomputable def Try.pinned : Pinned := { name := "ytnmdceofmlgohaa", sum := "dfc5a9346415b62c99ff7f0cbd82622e2e9294937537c6580c933927b535d730", checked := Try.checked }
namespace Rows
def none {H : Type} : Left H := { results := [], args := [] }

/-- 'letterlocklaw5.DrawSame': WHATEVER THE INPUT: true; the input reads as it did. -/
def drawSameSpec : ChangeSpec := { name := "drawSame", fn := fun _ => fun
  | [d1, d2, d3] => { results := [.lit (.bool true)], args := [d1, d2, d3] }
  | _ => none }
def drawSameRow : OpenClaim := { program := "ytnmdceofmlgohaa", sum := "dfc5a9346415b62c99ff7f0cbd82622e2e9294937537c6580c933927b535d730", func := "letterlock/letterlocklaw5.DrawSame", spec := "drawSame", unfollowed := true, recurses := true, apart := false }
def DrawSameSaid : Prop := drawSameRow.holds Try.pinned (OpenSpec.ofChange drawSameSpec)

/-- ITS FALSE NEIGHBOUR: 'it returns false'. Refute it at one input. -/
def drawSameWrong : ChangeSpec := { name := "drawSame", fn := fun _ => fun
  | [d1, d2, d3] => { results := [.lit (.bool false)], args := [d1, d2, d3] }
  | _ => none }
def DrawSameWrongFalsely : Prop := drawSameRow.holds Try.pinned (OpenSpec.ofChange drawSameWrong)

/-- 'letterlocklaw5.DrawShifts': WHATEVER THE INPUT: true; the input reads as it did. -/
def drawShiftsSpec : ChangeSpec := { name := "drawShifts", fn := fun _ => fun
  | [d1, d2] => { results := [.lit (.bool true)], args := [d1, d2] }
  | _ => none }
def drawShiftsRow : OpenClaim := { program := "ytnmdceofmlgohaa", sum := "dfc5a9346415b62c99ff7f0cbd82622e2e9294937537c6580c933927b535d730", func := "letterlock/letterlocklaw5.DrawShifts", spec := "drawShifts", unfollowed := true, recurses := true, apart := false }
def DrawShiftsSaid : Prop := drawShiftsRow.holds Try.pinned (OpenSpec.ofChange drawShiftsSpec)

/-- ITS FALSE NEIGHBOUR: 'it returns false'. Refute it at one input. -/
def drawShiftsWrong : ChangeSpec := { name := "drawShifts", fn := fun _ => fun
  | [d1, d2] => { results := [.lit (.bool false)], args := [d1, d2] }
  | _ => none }
def DrawShiftsWrongFalsely : Prop := drawShiftsRow.holds Try.pinned (OpenSpec.ofChange drawShiftsWrong)

/-- 'letterlocklaw5.DrawApart': WHATEVER THE INPUT: true; the input reads as it did. -/
def drawApartSpec : ChangeSpec := { name := "drawApart", fn := fun _ => fun
  | [d1, d2, d3] => { results := [.lit (.bool true)], args := [d1, d2, d3] }
  | _ => none }
def drawApartRow : OpenClaim := { program := "ytnmdceofmlgohaa", sum := "dfc5a9346415b62c99ff7f0cbd82622e2e9294937537c6580c933927b535d730", func := "letterlock/letterlocklaw5.DrawApart", spec := "drawApart", unfollowed := true, recurses := true, apart := false }
def DrawApartSaid : Prop := drawApartRow.holds Try.pinned (OpenSpec.ofChange drawApartSpec)

/-- ITS FALSE NEIGHBOUR: 'it returns false'. Refute it at one input. -/
def drawApartWrong : ChangeSpec := { name := "drawApart", fn := fun _ => fun
  | [d1, d2, d3] => { results := [.lit (.bool false)], args := [d1, d2, d3] }
  | _ => none }
def DrawApartWrongFalsely : Prop := drawApartRow.holds Try.pinned (OpenSpec.ofChange drawApartWrong)

/- THE SECOND FORM. 'bulk': how many values and letters a reading holds, each counted each time it is reached (what is shared counts as often as it is met; a slice's spare places count too). A statement '..UptoSaid' is the law's where the arguments, and the package variables that the reading takes, are together of bulk at most 1048576: NARROWER than '..Said'. Prove '..Said' where nothing that the law and all that it calls make is longer than what came in: it says more and counts as full. Else prove '..UptoSaid'. A law counts once. -/
mutual
def uptoBulk {H : Type} : DataW H → Nat
  | .lit (.string bytes) => bytes.length + 1
  | .lit _ => 1
  | .nil => 1
  | .ptr d => uptoBulk d + 1
  | .slice elems spare => uptoBulkAll elems + uptoBulkAll spare + 1
  | .agg parts => uptoBulkAll parts + 1
  | .iface _ d => uptoBulk d + 1
  | .map entries => uptoBulkEntries entries + 1
  | .held _ => 1
def uptoBulkAll {H : Type} : List (DataW H) → Nat
  | [] => 0
  | d :: r => uptoBulk d + uptoBulkAll r
def uptoBulkEntries {H : Type} : List (Lit × DataW H) → Nat
  | [] => 0
  | x :: r => uptoBulkEntry x + uptoBulkEntries r
def uptoBulkEntry {H : Type} : Lit × DataW H → Nat
  | (.string bytes, d) => bytes.length + uptoBulk d + 1
  | (_, d) => uptoBulk d + 1
 end
def uptoSmall : (H : Type) → List (DataW H) → Bool := fun _ ds => decide (uptoBulkAll ds ≤ 1048576)
def OpenSpec.upto (s : _root_.Go.ChangeSpec) : _root_.Go.OpenSpec := { _root_.Go.OpenSpec.ofChange s with cond := some uptoSmall }

/-- 'letterlocklaw5.DrawSame', WHERE WHAT IT READS IS OF BULK AT MOST 1048576: true; the input reads as it did. -/
def drawSameUptoRow : OpenClaim := { program := "ytnmdceofmlgohaa", sum := "dfc5a9346415b62c99ff7f0cbd82622e2e9294937537c6580c933927b535d730", func := "letterlock/letterlocklaw5.DrawSame", spec := "drawSame", unfollowed := true, recurses := true, apart := false, narrowed := true }
def DrawSameUptoSaid : Prop := drawSameUptoRow.holds Try.pinned (OpenSpec.upto drawSameSpec)

/-- 'letterlocklaw5.DrawShifts', WHERE WHAT IT READS IS OF BULK AT MOST 1048576: true; the input reads as it did. -/
def drawShiftsUptoRow : OpenClaim := { program := "ytnmdceofmlgohaa", sum := "dfc5a9346415b62c99ff7f0cbd82622e2e9294937537c6580c933927b535d730", func := "letterlock/letterlocklaw5.DrawShifts", spec := "drawShifts", unfollowed := true, recurses := true, apart := false, narrowed := true }
def DrawShiftsUptoSaid : Prop := drawShiftsUptoRow.holds Try.pinned (OpenSpec.upto drawShiftsSpec)

/-- 'letterlocklaw5.DrawApart', WHERE WHAT IT READS IS OF BULK AT MOST 1048576: true; the input reads as it did. -/
def drawApartUptoRow : OpenClaim := { program := "ytnmdceofmlgohaa", sum := "dfc5a9346415b62c99ff7f0cbd82622e2e9294937537c6580c933927b535d730", func := "letterlock/letterlocklaw5.DrawApart", spec := "drawApart", unfollowed := true, recurses := true, apart := false, narrowed := true }
def DrawApartUptoSaid : Prop := drawApartUptoRow.holds Try.pinned (OpenSpec.upto drawApartSpec)

end Rows
end Go.Proofs.Ytnmdceofmlgohaa
