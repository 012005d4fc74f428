/- Which letters a name can have, and which are great: what the printed words come to. -/
import Derived.Test.YtfhanoloaejmkaaDoorPLx1
import Derived.Test.YtfhanoloaejmkaaDoorEvCore
import Derived.Test.YtfhanoloaejmkaaDoorNames
namespace Go.Proofs.YtfhanoloaejmkaaDoor.Ref
open Go.RowKit Go.Proofs.YtfhanoloaejmkaaDoor Go.Proofs.YtfhanoloaejmkaaDoor.PL Go.Proofs.YtfhanoloaejmkaaDoorW.PrintWords Go.Proofs.YtfhanoloaejmkaaDoorW.PrintLast
set_option linter.unusedVariables false

theorem within_loop (r : Int) (l : List S88) (hl : l.length ≤ 1000) (m i : Nat) (hm : i + m = l.length) :
    Ev (fun k => name_within.l0 k r l (l.length : Int) (i : Int)) ((l.drop i).any fun s => decide (s.f0 ≤ r ∧ r ≤ s.f1)) := by
  induction m generalizing i with
  | zero =>
    rw [List.drop_eq_nil_of_le (by omega)]
    exact Ev.step (fun _ => rfl) (Ev.neg (by omega) (Ev.now _))
  | succ m ih =>
    have hi : i < l.length := by omega
    have hr : rd_T88 l (i : Int) = l[i] := by
      unfold rd_T88
      rw [Int.toNat_natCast, List.getD_eq_getElem?_getD, List.getElem?_eq_getElem hi]; rfl
    have ih := ih (i + 1) (by omega)
    rw [List.drop_eq_getElem_cons hi, List.any_cons]
    refine Ev.step (fun _ => rfl) (Ev.pos (by omega) (Ev.pos (by omega) (Ev.pos (by omega) ?_)))
    rw [hr, w64 (n := (i : Int) + 1) (by omega) (by omega)]
    by_cases h1 : r ≥ l[i].f0
    · refine Ev.pos h1 ?_
      by_cases h2 : r ≤ l[i].f1
      · rw [decide_eq_true ⟨h1, h2⟩, Bool.true_or]
        exact Ev.pos h2 (Ev.now _)
      · rw [decide_eq_false (fun h => h2 h.2), Bool.false_or]
        exact Ev.neg h2 ih
    · rw [decide_eq_false (fun h => h1 h.1), Bool.false_or]
      exact Ev.neg h1 ih
theorem letter_ev (r : Int) : Ev (fun k => name_letter.f k r) (letterZ r) := by
  unfold name_letter.f
  refine Ev.bind (a := letterZ r) ?_ (Ev.now _)
  unfold name_within.f
  refine ev_cast (within_loop r _ (by simp) 7 0 rfl) ?_
  simp only [List.drop_zero, List.any_cons, List.any_nil, Bool.or_false, letterZ]
  have e : decide ((45 : Int) ≤ r ∧ r ≤ 45) = decide (r = 45) := by
    by_cases h : r = 45
    · rw [decide_eq_true h, decide_eq_true (by omega)]
    · rw [decide_eq_false h, decide_eq_false (by omega)]
  rw [e]
  simp only [Bool.or_assoc]
theorem letter_calls (r : Int) (w : World) : Calls Tryd.prog 44 #[.int .i32 r] w fun e w' => e = .returned (.bool (letterZ r)) ∧ Below w.heap.size w w' := by
  obtain ⟨K, h⟩ := letter_ev r
  exact name_letter.calls K r _ w (h K (Nat.le_refl _))

end Go.Proofs.YtfhanoloaejmkaaDoor.Ref
