/- What can be told, in plain Lean: put together of what is had, given by it, and all that is had. No program is in sight. -/
import Derived.Test.YtnieihhnchefdaaTerms
namespace Go.Proofs.Ytnieihhnchefdaa
set_option linter.unusedVariables false

/-- Can a term be put together of what is had? -/
def tog (S : List T) : T → Bool
  | .atom n => S.contains (.atom n)
  | .text s => true
  | .one k a => S.contains (.one k a) || tog S a
  | .two k a b => S.contains (.two k a b) || (tog S a && tog S b)
/-- What a term that is had gives. -/
def gives (S : List T) : T → List T
  | .two .p a b => [a, b]
  | .two .g _ b => [b]
  | .two .s a b => if tog S a = true then [b] else []
  | .two .b (.one _ a) b => if tog S a = true then [b] else []
  | _ => []
def addAll (S : List T) (l : List T) : List T := l.foldl (fun S x => if S.contains x then S else S ++ [x]) S
def stepH (S : List T) : List T := addAll S (S.flatMap (gives S))
def iterH : Nat → List T → List T
  | 0, S => S
  | n + 1, S => iterH n (stepH S)
def subT : T → List T
  | .atom n => [.atom n]
  | .text s => [.text s]
  | .one k a => .one k a :: subT a
  | .two k a b => .two k a b :: (subT a ++ subT b)
/-- All that is had of what is held. -/
def hadL (h : List T) : List T := iterH (h.flatMap subT).length (addAll [] h)

theorem mem_addAll (S l : List T) (x : T) : x ∈ addAll S l ↔ x ∈ S ∨ x ∈ l := by
  induction l generalizing S with
  | nil => simp [addAll]
  | cons y l ih =>
    unfold addAll at ih ⊢
    rw [List.foldl_cons, ih]
    by_cases h : S.contains y = true
    · rw [if_pos h]
      have h : y ∈ S := List.contains_iff_mem.1 h
      constructor
      · rintro (h1 | h1)
        · exact Or.inl h1
        · exact Or.inr (List.mem_cons_of_mem _ h1)
      · rintro (h1 | h1)
        · exact Or.inl h1
        · rcases List.mem_cons.1 h1 with rfl | h2
          · exact Or.inl h
          · exact Or.inr h2
    · rw [if_neg h]
      simp only [List.mem_append, List.mem_cons, List.not_mem_nil, or_false]
      constructor
      · rintro ((h1 | h1) | h1)
        · exact Or.inl h1
        · exact Or.inr (Or.inl h1)
        · exact Or.inr (Or.inr h1)
      · rintro (h1 | h1 | h1)
        · exact Or.inl (Or.inl h1)
        · exact Or.inl (Or.inr h1)
        · exact Or.inr h1
theorem nodup_addAll (S l : List T) (h : S.Nodup) : (addAll S l).Nodup := by
  induction l generalizing S with
  | nil => exact h
  | cons y l ih =>
    unfold addAll at ih ⊢
    rw [List.foldl_cons]
    refine ih _ ?_
    by_cases h1 : S.contains y = true
    · rw [if_pos h1]; exact h
    · rw [if_neg h1]
      refine List.nodup_append.2 ⟨h, by simp, ?_⟩
      intro a ha b hb
      rw [List.mem_singleton.1 hb]
      rintro rfl
      exact h1 (List.contains_iff_mem.2 ha)

theorem tog_mono {S U : List T} (h : ∀ x ∈ S, x ∈ U) (t : T) (ht : tog S t = true) : tog U t = true := by
  induction t with
  | atom n => exact List.contains_iff_mem.2 (h _ (List.contains_iff_mem.1 ht))
  | text s => rfl
  | one k a ih =>
    simp only [tog, Bool.or_eq_true] at ht ⊢
    rcases ht with ht | ht
    · exact Or.inl (List.contains_iff_mem.2 (h _ (List.contains_iff_mem.1 ht)))
    · exact Or.inr (ih ht)
  | two k a b iha ihb =>
    simp only [tog, Bool.or_eq_true, Bool.and_eq_true] at ht ⊢
    rcases ht with ht | ht
    · exact Or.inl (List.contains_iff_mem.2 (h _ (List.contains_iff_mem.1 ht)))
    · exact Or.inr ⟨iha ht.1, ihb ht.2⟩
theorem tog_congr {S U : List T} (h : ∀ x, x ∈ S ↔ x ∈ U) (t : T) : tog S t = tog U t := by
  cases hs : tog S t with
  | true => exact (tog_mono (fun x hx => (h x).1 hx) t hs).symm
  | false =>
    cases hu : tog U t with
    | false => rfl
    | true => rw [tog_mono (fun x hx => (h x).2 hx) t hu] at hs; exact absurd hs (by simp)
theorem gives_mono {S U : List T} (h : ∀ x ∈ S, x ∈ U) (t x : T) (hx : x ∈ gives S t) : x ∈ gives U t := by
  cases t with
  | atom n => simp [gives] at hx
  | text s => simp [gives] at hx
  | one k a => simp [gives] at hx
  | two k a b =>
    cases k with
    | p => exact hx
    | g => exact hx
    | s =>
      simp only [gives] at hx ⊢
      by_cases h1 : tog S a = true
      · rw [if_pos h1] at hx; rw [if_pos (tog_mono h a h1)]; exact hx
      · rw [if_neg h1] at hx; simp at hx
    | b =>
      cases a with
      | atom n => simp [gives] at hx
      | text s => simp [gives] at hx
      | two k a c => simp [gives] at hx
      | one k a =>
        simp only [gives] at hx ⊢
        by_cases h1 : tog S a = true
        · rw [if_pos h1] at hx; rw [if_pos (tog_mono h a h1)]; exact hx
        · rw [if_neg h1] at hx; simp at hx
theorem subT_self (t : T) : t ∈ subT t := by cases t <;> simp [subT]
theorem subT_trans {a b c : T} (h1 : a ∈ subT b) (h2 : b ∈ subT c) : a ∈ subT c := by
  induction c with
  | atom n => simp only [subT, List.mem_singleton] at h2; rw [h2] at h1; exact h1
  | text n => simp only [subT, List.mem_singleton] at h2; rw [h2] at h1; exact h1
  | one k x ih =>
    simp only [subT, List.mem_cons] at h2
    rcases h2 with rfl | h2
    · exact h1
    · exact List.mem_cons_of_mem _ (ih h2)
  | two k x y ihx ihy =>
    simp only [subT, List.mem_cons, List.mem_append] at h2
    rcases h2 with rfl | h2 | h2
    · exact h1
    · exact List.mem_cons_of_mem _ (List.mem_append.2 (Or.inl (ihx h2)))
    · exact List.mem_cons_of_mem _ (List.mem_append.2 (Or.inr (ihy h2)))
theorem gives_sub {S : List T} {t x : T} (hx : x ∈ gives S t) : x ∈ subT t := by
  cases t with
  | atom n => simp [gives] at hx
  | text s => simp [gives] at hx
  | one k a => simp [gives] at hx
  | two k a b =>
    have ha := subT_self a
    have hb := subT_self b
    have hkey : x = a ∨ x = b → x ∈ subT (.two k a b) := by
      rintro (rfl | rfl)
      · exact List.mem_cons_of_mem _ (List.mem_append.2 (Or.inl ha))
      · exact List.mem_cons_of_mem _ (List.mem_append.2 (Or.inr hb))
    cases k with
    | p => simp only [gives, List.mem_cons, List.not_mem_nil, or_false] at hx; exact hkey hx
    | g => simp only [gives, List.mem_singleton] at hx; exact hkey (Or.inr hx)
    | s =>
      simp only [gives] at hx
      by_cases h1 : tog S a = true
      · rw [if_pos h1, List.mem_singleton] at hx; exact hkey (Or.inr hx)
      · rw [if_neg h1] at hx; simp at hx
    | b =>
      cases a with
      | atom n => simp [gives] at hx
      | text s => simp [gives] at hx
      | two k a c => simp [gives] at hx
      | one k a =>
        simp only [gives] at hx
        by_cases h1 : tog S a = true
        · rw [if_pos h1, List.mem_singleton] at hx; exact hkey (Or.inr hx)
        · rw [if_neg h1] at hx; simp at hx

/-- Nothing more is given. -/
def ClosedT (S : List T) : Prop := ∀ t ∈ S, ∀ x ∈ gives S t, x ∈ S
theorem mem_stepH (S : List T) (x : T) : x ∈ stepH S ↔ x ∈ S ∨ ∃ t ∈ S, x ∈ gives S t := by
  unfold stepH
  rw [mem_addAll, List.mem_flatMap]
theorem iterH_sup (n : Nat) (S : List T) (x : T) (h : x ∈ S) : x ∈ iterH n S := by
  induction n generalizing S with
  | zero => exact h
  | succ n ih => exact ih _ ((mem_stepH S x).2 (Or.inl h))
theorem iterH_least (n : Nat) (S C : List T) (hs : ∀ x ∈ S, x ∈ C) (hc : ClosedT C) : ∀ x ∈ iterH n S, x ∈ C := by
  induction n generalizing S with
  | zero => exact hs
  | succ n ih =>
    refine ih _ fun x hx => ?_
    rcases (mem_stepH S x).1 hx with h | ⟨t, ht, h⟩
    · exact hs x h
    · exact hc t (hs t ht) x (gives_mono hs t x h)
theorem iterH_sub (n : Nat) (S U : List T) (hs : ∀ x ∈ S, x ∈ U) (hu : ∀ t ∈ U, ∀ x ∈ subT t, x ∈ U) : ∀ x ∈ iterH n S, x ∈ U := by
  induction n generalizing S with
  | zero => exact hs
  | succ n ih =>
    refine ih _ fun x hx => ?_
    rcases (mem_stepH S x).1 hx with h | ⟨t, ht, h⟩
    · exact hs x h
    · exact hu t (hs t ht) x (gives_sub h)
theorem stepH_nodup {S : List T} (h : S.Nodup) : (stepH S).Nodup := nodup_addAll _ _ h
theorem addAll_len (S l : List T) : S.length ≤ (addAll S l).length ∧ ((addAll S l).length = S.length → ∀ x ∈ l, x ∈ S) := by
  induction l generalizing S with
  | nil => exact ⟨Nat.le_refl _, fun _ x hx => by simp at hx⟩
  | cons y l ih =>
    have h0 : addAll S (y :: l) = addAll (if S.contains y then S else S ++ [y]) l := rfl
    rw [h0]
    obtain ⟨h1, h2⟩ := ih (if S.contains y then S else S ++ [y])
    by_cases h : S.contains y = true
    · rw [if_pos h] at h1 h2 ⊢
      refine ⟨h1, fun e x hx => ?_⟩
      rcases List.mem_cons.1 hx with rfl | hx
      · exact List.contains_iff_mem.1 h
      · exact h2 e x hx
    · rw [if_neg h] at h1 h2 ⊢
      rw [List.length_append, List.length_singleton] at h1 h2
      exact ⟨by omega, fun e => by omega⟩
theorem nodup_len {S U : List T} (h : S.Nodup) (hs : ∀ x ∈ S, x ∈ U) : S.length ≤ U.length := by
  induction S generalizing U with
  | nil => exact Nat.zero_le _
  | cons y S ih =>
    obtain ⟨hy, hS⟩ := List.nodup_cons.1 h
    have hm : y ∈ U := hs y List.mem_cons_self
    have h1 := ih (U := U.erase y) hS (fun x hx => (List.mem_erase_of_ne (fun e => hy (by rw [← e]; exact hx))).2 (hs x (List.mem_cons_of_mem _ hx)))
    have h2 := List.length_erase_of_mem hm
    have h3 : 0 < U.length := List.length_pos_of_mem hm
    rw [List.length_cons]
    omega
theorem stepH_fix {S : List T} (h : (stepH S).length = S.length) : ClosedT S := by
  intro t ht x hx
  have := (addAll_len S (S.flatMap (gives S))).2 h x (List.mem_flatMap.2 ⟨t, ht, hx⟩)
  exact this
theorem stepH_closed {S : List T} (h : ClosedT S) (x : T) : x ∈ stepH S ↔ x ∈ S := by
  rw [mem_stepH]
  constructor
  · rintro (h1 | ⟨t, ht, h1⟩)
    · exact h1
    · exact h t ht x h1
  · exact Or.inl
theorem iterH_closed_of {S : List T} (n : Nat) (h : ClosedT S) (x : T) : x ∈ iterH n S ↔ x ∈ S := by
  induction n generalizing S with
  | zero => exact Iff.rfl
  | succ n ih =>
    have h2 : ClosedT (stepH S) := by
      intro t ht x hx
      rw [stepH_closed h] at ht ⊢
      exact h t ht x (gives_mono (fun y hy => (stepH_closed h y).1 hy) t x hx)
    exact (ih h2).trans (stepH_closed h x)
theorem closedT_congr {S U : List T} (h : ∀ x, x ∈ S ↔ x ∈ U) (hs : ClosedT S) : ClosedT U := by
  intro t ht x hx
  exact (h x).1 (hs t ((h t).2 ht) x (gives_mono (fun y hy => (h y).2 hy) t x hx))
/-- So many steps as there are terms in all of it are enough. -/
theorem iterH_closed (n : Nat) (S U : List T) (hn : S.Nodup) (hs : ∀ x ∈ S, x ∈ U) (hu : ∀ t ∈ U, ∀ x ∈ subT t, x ∈ U) (h : U.length ≤ S.length + n) : ClosedT (iterH n S) := by
  induction n generalizing S with
  | zero =>
    -- S has all of U
    have hU : ∀ x ∈ U, x ∈ S := by
      intro x hx
      by_cases hxs : x ∈ S
      · exact hxs
      · have h1 : (x :: S).Nodup := List.nodup_cons.2 ⟨hxs, hn⟩
        have := nodup_len h1 (U := U) (fun y hy => by
          rcases List.mem_cons.1 hy with rfl | hy
          · exact hx
          · exact hs y hy)
        rw [List.length_cons] at this
        omega
    intro t ht x hx
    exact hU x (hu t (hs t ht) x (gives_sub hx))
  | succ n ih =>
    have hl := (addAll_len S (S.flatMap (gives S))).1
    have hl : S.length ≤ (stepH S).length := hl
    by_cases he : (stepH S).length = S.length
    · have hc := stepH_fix he
      refine closedT_congr (S := S) (fun x => ?_) hc
      exact (iterH_closed_of (n + 1) hc x).symm
    · refine ih (stepH S) (stepH_nodup hn) (fun x hx => ?_) (by omega)
      rcases (mem_stepH S x).1 hx with h1 | ⟨t, ht, h1⟩
      · exact hs x h1
      · exact hu t (hs t ht) x (gives_sub h1)
theorem hadL_sup (h : List T) (x : T) (hx : x ∈ h) : x ∈ hadL h := iterH_sup _ _ _ ((mem_addAll [] h x).2 (Or.inr hx))
theorem hadL_least (h C : List T) (hs : ∀ x ∈ h, x ∈ C) (hc : ClosedT C) : ∀ x ∈ hadL h, x ∈ C :=
  iterH_least _ _ _ (fun x hx => by
    rcases (mem_addAll [] h x).1 hx with h1 | h1
    · simp at h1
    · exact hs x h1) hc
theorem hadL_closed (h : List T) : ClosedT (hadL h) := by
  refine iterH_closed _ _ (h.flatMap subT) (nodup_addAll _ _ List.nodup_nil) ?_ ?_ (by omega)
  · intro x hx
    rcases (mem_addAll [] h x).1 hx with h1 | h1
    · simp at h1
    · exact List.mem_flatMap.2 ⟨x, h1, subT_self x⟩
  · intro t ht x hx
    obtain ⟨u, hu, h1⟩ := List.mem_flatMap.1 ht
    exact List.mem_flatMap.2 ⟨u, hu, subT_trans hx h1⟩
theorem hadL_sub (h : List T) : ∀ x ∈ hadL h, x ∈ h.flatMap subT := by
  refine iterH_sub _ _ _ ?_ ?_
  · intro x hx
    rcases (mem_addAll [] h x).1 hx with h1 | h1
    · simp at h1
    · exact List.mem_flatMap.2 ⟨x, h1, subT_self x⟩
  · intro t ht x hx
    obtain ⟨u, hu, h1⟩ := List.mem_flatMap.1 ht
    exact List.mem_flatMap.2 ⟨u, hu, subT_trans hx h1⟩
/-- What is closed, holds what is held, and has nothing that is not had, is all that is had. -/
theorem hadL_iff {h C : List T} (h1 : ∀ x ∈ h, x ∈ C) (h2 : ClosedT C) (h3 : ∀ x ∈ C, x ∈ hadL h) (x : T) : x ∈ C ↔ x ∈ hadL h := ⟨h3 x, hadL_least h C h1 h2 x⟩

end Go.Proofs.Ytnieihhnchefdaa
