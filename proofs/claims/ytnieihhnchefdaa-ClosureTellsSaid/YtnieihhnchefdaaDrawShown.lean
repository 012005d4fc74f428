/- The head of chapter 5's statements: it returns true. -/
import Derived.Test.YtnieihhnchefdaaDraw
import Derived.LoopTactic
namespace Go.Proofs.Ytnieihhnchefdaa
open Go.RowKit
set_option linter.unusedVariables false

theorem shown5_any (w : World) : Calls Try.prog 33 #[] w fun e w' => e = .returned (.bool true) ∧ Below w.heap.size w w' := by
  go_enter Try.func33, Try.ntmps33
  go_wp2_with fail
  refine (mix_any 0 _).mono ?_
  rintro e w1 ⟨rfl, hb⟩
  rw [mix0]
  go_wp2_with fail
  refine (new_any 0 _).mono ?_
  rintro e w2 ⟨d, s, rfl, hd, hb2, h3, h4, h5, h6⟩
  have H := Lib.hid (hb.trans (hb2.mono hb.size))
  clear hd h3 h4 h5 h6 hb hb2
  go_wp2
  go_ret
  exact ⟨rfl, H.out⟩

end Go.Proofs.Ytnieihhnchefdaa
