/- Of any texts one stands ahead, or both are the same, and ahead of ahead is ahead: the printed law tells true for any three texts. -/
import Derived.Test.YtngdpoghfacokaaDoorEvName
import Derived.Test.YtngdpoghfacokaaDoorPAx6
namespace Go.Proofs.YtngdpoghfacokaaDoor.Pure
open Go.RowKit Go.Proofs.YtngdpoghfacokaaDoor Go.Proofs.YtngdpoghfacokaaDoor.Ref Go.Proofs.YtngdpoghfacokaaDoor.PA Go.Proofs.YtngdpoghfacokaaDoorW.PrintWords Go.Proofs.YtngdpoghfacokaaDoorW.PrintLast
set_option linter.unusedVariables false

theorem lt_snoc (l : Bs) (c : UInt8) : l < l ++ [c] := by
  induction l with
  | nil => exact List.nil_lt_cons c []
  | cons a l ih => rw [List.cons_append, List.cons_lt_cons_iff]; exact Or.inr ⟨rfl, ih⟩
theorem order_end (a b c : ByteArray) (h : a.size ≤ 1000000) (x : Bool) (hx : x = decide (bytes a < bytes b)) : Ev (fun k => letterlocklaw1_NameOrder.j1 k a b c x false) true := by
  have hirr : decide (bytes a < bytes a) = false := decide_eq_false (List.lt_irrefl _)
  have h1 : decide (bytes a < bytes (a ++ (⟨#[97]⟩ : ByteArray))) = true := decide_eq_true (by rw [bytes_append]; exact lt_snoc _ _)
  have h2 : decide (bytes (a ++ (⟨#[97]⟩ : ByteArray)) < bytes a) = false := decide_eq_false (fun e => by
    have e2 : bytes a < bytes (a ++ (⟨#[97]⟩ : ByteArray)) := of_decide_eq_true h1
    exact List.lt_irrefl _ (List.lt_trans e e2))
  have hz : a.size + 1 ≤ 9223372036854775807 := by omega
  refine ⟨1, fun k hk => ?_⟩
  obtain ⟨k, rfl⟩ : ∃ m, k = m + 1 := ⟨k - 1, by omega⟩
  simp only [letterlocklaw1_NameOrder.j1, less_val, Option.bind_some, hirr, h1, h2, if_pos hz]
  subst hx
  by_cases g1 : bytes a < bytes b
  · by_cases g2 : bytes b < bytes c
    · have g3 := List.lt_trans g1 g2
      simp [g1, g2, g3]
    · simp [g1, g2]
  · simp [g1]

theorem NameOrder (a0 a1 a2 : ByteArray) (h0 : a0.size ≤ 140737488351232) (h1 : a1.size ≤ 140737488351232) (h2 : a2.size ≤ 140737488351232) : ∃ k, letterlocklaw1_NameOrder.f k a0 a1 a2 = some true := by
  refine Ev.rounds ?_
  unfold letterlocklaw1_NameOrder.f
  refine Ev.put shown1_val (Ev.pos rfl ?_)
  rw [w64 (n := (a0.size : Int) + a1.size) (by omega) (by omega), w64 (by omega) (by omega)]
  by_cases h : (a0.size : Int) + a1.size + a2.size > 3000
  · rw [decide_eq_true h]
    exact Ev.step (fun _ => rfl) (Ev.now _)
  rw [decide_eq_false h]
  have hstep : ∀ k, letterlocklaw1_NameOrder.j0 (k + 1) a0 a1 a2 true false = (if decide (bytes a0 < bytes a1) = true then (if decide (bytes a1 < bytes a0) = true then (letterlocklaw1_NameOrder.j1 k a0 a1 a2 (decide (bytes a0 < bytes a1)) true) else (letterlocklaw1_NameOrder.j1 k a0 a1 a2 (decide (bytes a0 < bytes a1)) false)) else (letterlocklaw1_NameOrder.j1 k a0 a1 a2 (decide (bytes a0 < bytes a1)) ((!(decide (bytes a1 < bytes a0))) != (a0.toList == a1.toList)))) := by
    intro k
    simp only [letterlocklaw1_NameOrder.j0, less_val, Option.bind_some]
    rw [if_neg (by simp)]
  refine Ev.step hstep ?_
  by_cases g1 : bytes a0 < bytes a1
  · rw [decide_eq_true g1]
    have g2 : ¬ bytes a1 < bytes a0 := fun e => List.lt_irrefl _ (List.lt_trans g1 e)
    refine Ev.pos rfl (Ev.neg (by simpa using g2) ?_)
    exact order_end a0 a1 a2 (by omega) true (decide_eq_true g1).symm
  · rw [decide_eq_false g1]
    refine Ev.neg (by simp) ?_
    have hf : ((!decide (bytes a1 < bytes a0)) != (a0.toList == a1.toList)) = false := by
      by_cases e : a0 = a1
      · subst e
        rw [decide_eq_false g1]; simp
      · have hne : ¬ a0.toList = a1.toList := fun h => e ((list_eq a0 a1).1 h)
        rw [beq_eq_false_iff_ne.mpr hne]
        have : bytes a1 < bytes a0 := by
          refine List.not_le.1 fun h3 => e (bs_inj (List.le_antisymm h3 (List.not_lt.1 g1)))
        rw [decide_eq_true this]; rfl
    rw [hf]
    exact order_end a0 a1 a2 (by omega) false (decide_eq_false g1).symm

end Go.Proofs.YtngdpoghfacokaaDoor.Pure
