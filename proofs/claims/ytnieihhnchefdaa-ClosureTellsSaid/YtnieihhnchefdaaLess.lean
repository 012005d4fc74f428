/- Of two texts: less, the same, or greater. -/
import Derived.Test.YtnieihhnchefdaaBytes
namespace Go.Proofs.Ytnieihhnchefdaa
set_option linter.unusedVariables false
set_option linter.unusedSimpArgs false

theorem less_lt : ∀ (x y : List UInt8), Op.bytesLess x y = decide (x < y)
  | [], [] => by simp [Op.bytesLess]
  | _ :: _, [] => by simp [Op.bytesLess]
  | [], _ :: _ => by simp [Op.bytesLess]
  | a :: x, b :: y => by
    rw [Op.bytesLess, less_lt x y]
    by_cases h1 : a < b
    · simp [h1, List.cons_lt_cons_iff]
    · by_cases h2 : a = b
      · subst h2; simp
      · have h3 : (a == b) = false := beq_eq_false_iff_ne.mpr h2
        simp [h1, h2, List.cons_lt_cons_iff]
theorem less_flip {x y : List UInt8} (h : Op.bytesLess x y = true) : Op.bytesLess y x = false := by
  rw [less_lt] at h ⊢
  exact decide_eq_false fun h2 => List.lt_irrefl x (List.lt_trans (of_decide_eq_true h) h2)
theorem less_ne {x y : List UInt8} (h : Op.bytesLess x y = true) : (y == x) = false := by
  rw [less_lt] at h
  exact beq_eq_false_iff_ne.mpr fun e => by rw [e] at h; exact List.lt_irrefl x (of_decide_eq_true h)
theorem less_or {x y : List UInt8} (h : Op.bytesLess x y = false) : (Op.bytesLess y x || y == x) = true := by
  rw [less_lt] at h ⊢
  have h1 : ¬ x < y := of_decide_eq_false h
  rcases List.le_total x y with h2 | h2
  · have : x = y := List.le_antisymm h2 (List.not_lt.1 h1)
    rw [this]; simp
  · by_cases e : y = x
    · rw [e]; simp
    · have : y < x := List.not_le.1 fun h3 => e (List.le_antisymm h2 h3)
      simp [this]

end Go.Proofs.Ytnieihhnchefdaa
