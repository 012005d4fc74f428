/- The code and the reference for names tell the same of any two texts: the printed law tells true for any texts. -/
import Derived.Test.YtngdpoghfacokaaDoorEvRefName2
import Derived.Test.YtngdpoghfacokaaDoorPAx8
namespace Go.Proofs.YtngdpoghfacokaaDoor.Pure
open Go.RowKit Go.Proofs.YtngdpoghfacokaaDoor Go.Proofs.YtngdpoghfacokaaDoor.Ref Go.Proofs.YtngdpoghfacokaaDoor.PA Go.Proofs.YtngdpoghfacokaaDoorW.PrintWords Go.Proofs.YtngdpoghfacokaaDoorW.PrintLast
set_option linter.unusedVariables false

theorem tells_runes_len (s : ByteArray) (h : s.size ≤ 1000000) : (runesF s).1.length ≤ 9223372036854775807 := by
  unfold runesF
  have := runesD_len (bytes s)
  rw [bytes_length] at this
  split
  · show (runesD (bytes s)).length ≤ _; omega
  · simp
theorem NameTells (a0 a1 : ByteArray) (h0 : a0.size ≤ 140737488351232) (h1 : a1.size ≤ 140737488351232) : ∃ k, letterlocklaw1_NameTells.f k a0 a1 = some true := by
  refine Ev.rounds ?_
  unfold letterlocklaw1_NameTells.f
  refine Ev.put shown1_val (Ev.pos rfl ?_)
  rw [w64 (n := (a0.size : Int) + (a1.size : Int)) (by omega) (by omega)]
  by_cases h : (a0.size : Int) + (a1.size : Int) > 2000
  · rw [decide_eq_true h]
    exact Ev.step (fun _ => rfl) (Ev.now _)
  rw [decide_eq_false h]
  have s0 : a0.size ≤ 1000000 := by omega
  have s1 : a1.size ≤ 1000000 := by omega
  refine Ev.step (fun k => by simp only [letterlocklaw1_NameTells.j0, Bool.false_eq_true, if_false]; rfl) ?_
  refine Ev.put (runes_val a0 s0) (Ev.bind (refRunes_ev a0 s0) (Ev.put (split_val a0 (by omega)) (Ev.bind (refSplit_ev a0 s0) (Ev.put (path_val a0 a1 (by omega) (by omega)) (Ev.bind (refPath_ev a0 a1 s0 s1) ?_)))))
  refine Ev.put (right_val a0 (by omega)) (Ev.bind (refRight_ev a0 s0) (Ev.pos (beq_self_eq_true _) (Ev.bind (same_ev _ (tells_runes_len a0 s0)) (Ev.pos rfl ?_))))
  refine Ev.pos rfl (Ev.pos rfl (Ev.pos rfl (Ev.pos rfl (Ev.pos rfl (Ev.pos rfl ?_)))))
  exact Ev.put (fold_val a0 s0) (Ev.bind (refFold_ev a0 s0) (Ev.pos rfl (Ev.put (less_val a0 a1) (Ev.bind (refLess_ev a0 a1 s0 s1) (ev_cast (Ev.now _) (beq_self_eq_true _))))))

end Go.Proofs.YtngdpoghfacokaaDoor.Pure
