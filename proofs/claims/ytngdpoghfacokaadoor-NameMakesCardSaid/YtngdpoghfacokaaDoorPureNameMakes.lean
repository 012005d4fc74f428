/- A text that is made of numbers, or that they are no runes, is as the chapter says: the printed law tells true for all numbers. -/
import Derived.Test.YtngdpoghfacokaaDoorEvName2
import Derived.Test.YtngdpoghfacokaaDoorPAx8
namespace Go.Proofs.YtngdpoghfacokaaDoor.Pure
open Go.RowKit Go.Proofs.YtngdpoghfacokaaDoor Go.Proofs.YtngdpoghfacokaaDoor.Ref Go.Proofs.YtngdpoghfacokaaDoor.PA Go.Proofs.YtngdpoghfacokaaDoorW.PrintWords Go.Proofs.YtngdpoghfacokaaDoorW.PrintLast
set_option linter.unusedVariables false

theorem NameMakes (l0 : List Int) (g0 : l0.length ≤ 9223372036854775807 ∧ ∀ x ∈ l0, (Lit.int .i32 x).wf = true) : ∃ k, letterlocklaw1_NameMakes.f k l0 = some true := by
  refine Ev.rounds ?_
  unfold letterlocklaw1_NameMakes.f
  refine Ev.put shown1_val (Ev.pos rfl ?_)
  by_cases h : (l0.length : Int) > 500
  · rw [decide_eq_true h]
    exact Ev.step (fun _ => rfl) (Ev.now _)
  rw [decide_eq_false h]
  exact Ev.step (fun _ => rfl) (Ev.put (make_val l0 (by omega)) (Ev.bind (refMake_ev l0 (by omega)) (Ev.pos rfl (ev_cast (Ev.now _) (by simp)))))

end Go.Proofs.YtngdpoghfacokaaDoor.Pure
