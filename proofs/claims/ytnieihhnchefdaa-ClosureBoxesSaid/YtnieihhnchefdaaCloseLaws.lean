/- What follows of what can be told, in plain Lean: of more, of what can be put together and is held too, of parts, of keys. No program is in sight. -/
import Derived.Test.YtnieihhnchefdaaClose
namespace Go.Proofs.Ytnieihhnchefdaa
set_option linter.unusedVariables false

theorem contains_not {S : List T} {t : T} (h : t ∉ S) : S.contains t = false := by
  cases hc : S.contains t with
  | false => rfl
  | true => exact absurd (List.contains_iff_mem.1 hc) h
theorem tog_of_mem {S : List T} {t : T} (h : t ∈ S) : tog S t = true := by
  have h := List.contains_iff_mem.2 h
  cases t with
  | atom n => exact h
  | text n => rfl
  | one k a => simp only [tog]; rw [h, Bool.true_or]
  | two k a b => simp only [tog]; rw [h, Bool.true_or]
theorem had_mono {h k : List T} (hs : ∀ x ∈ h, x ∈ k) : ∀ x ∈ hadL h, x ∈ hadL k :=
  hadL_least h (hadL k) (fun x hx => hadL_sup k x (hs x hx)) (hadL_closed k)
theorem had_congr {h k : List T} (hs : ∀ x, x ∈ h ↔ x ∈ k) (x : T) : x ∈ hadL h ↔ x ∈ hadL k :=
  ⟨had_mono (fun x hx => (hs x).1 hx) x, had_mono (fun x hx => (hs x).2 hx) x⟩
theorem had_idem (h : List T) (x : T) : x ∈ hadL (hadL h) ↔ x ∈ hadL h := ⟨hadL_least _ _ (fun x hx => hx) (hadL_closed h) x, hadL_sup _ x⟩
theorem tog_had_mono {h k : List T} (hs : ∀ x ∈ h, x ∈ k) (t : T) (ht : tog (hadL h) t = true) : tog (hadL k) t = true := tog_mono (had_mono hs) t ht
/-- What is closed is all that is had of it. -/
theorem tog_closedT {ts : List T} (h : ClosedT ts) (t : T) : tog (hadL ts) t = tog ts t :=
  tog_congr (fun x => (hadL_iff (h := ts) (C := ts) (fun x hx => hx) h (fun x hx => hadL_sup ts x hx) x).symm) t
theorem tog_cut {S C : List T} (h : ∀ x ∈ C, tog S x = true) (t : T) (ht : tog C t = true) : tog S t = true := by
  induction t with
  | atom n => exact h _ (List.contains_iff_mem.1 ht)
  | text s => rfl
  | one k a ih =>
    simp only [tog, Bool.or_eq_true] at ht
    rcases ht with ht | ht
    · exact h _ (List.contains_iff_mem.1 ht)
    · simp only [tog]; rw [ih ht, Bool.or_true]
  | two k a b iha ihb =>
    simp only [tog, Bool.or_eq_true, Bool.and_eq_true] at ht
    rcases ht with ht | ht
    · exact h _ (List.contains_iff_mem.1 ht)
    · simp only [tog]; rw [iha ht.1, ihb ht.2]; simp
theorem tog_two {S : List T} {k : K2} {a b : T} (h : tog S (.two k a b) = true) : .two k a b ∈ S ∨ tog S a = true ∧ tog S b = true := by
  simp only [tog, Bool.or_eq_true, Bool.and_eq_true] at h
  rcases h with h | h
  · exact Or.inl (List.contains_iff_mem.1 h)
  · exact Or.inr h
/-- What is given by what can be put together can be. -/
theorem gives_tog {S C : List T} (hc : ClosedT S) (h : ∀ x ∈ C, tog S x = true) {t z : T} (ht : tog S t = true) (hz : z ∈ gives C t) : tog S z = true := by
  cases t with
  | atom n => simp [gives] at hz
  | text s => simp [gives] at hz
  | one k a => simp [gives] at hz
  | two k a b =>
    rcases tog_two ht with hm | ⟨ha, hb⟩
    · refine tog_of_mem (hc _ hm z ?_)
      cases k with
      | p => exact hz
      | g => exact hz
      | s =>
        simp only [gives] at hz ⊢
        by_cases h1 : tog C a = true
        · rw [if_pos h1] at hz; rw [if_pos (tog_cut h a h1)]; exact hz
        · rw [if_neg h1] at hz; simp at hz
      | b =>
        cases a with
        | atom n => simp [gives] at hz
        | text s => simp [gives] at hz
        | two k a c => simp [gives] at hz
        | one k a =>
          simp only [gives] at hz ⊢
          by_cases h1 : tog C a = true
          · rw [if_pos h1] at hz; rw [if_pos (tog_cut h a h1)]; exact hz
          · rw [if_neg h1] at hz; simp at hz
    · have hor : z = a ∨ z = b := by
        cases k with
        | p => simpa [gives] using hz
        | g => exact Or.inr (by simpa [gives] using hz)
        | s =>
          simp only [gives] at hz
          by_cases h1 : tog C a = true
          · rw [if_pos h1] at hz; exact Or.inr (by simpa using hz)
          · rw [if_neg h1] at hz; simp at hz
        | b =>
          cases a with
          | atom n => simp [gives] at hz
          | text s => simp [gives] at hz
          | two k a c => simp [gives] at hz
          | one k a =>
            simp only [gives] at hz
            by_cases h1 : tog C a = true
            · rw [if_pos h1] at hz; exact Or.inr (by simpa using hz)
            · rw [if_neg h1] at hz; simp at hz
      rcases hor with rfl | rfl
      · exact ha
      · exact hb
/-- What can be put together, and is held too, makes nothing more. -/
theorem had_cut {h : List T} {x : T} (hx : tog (hadL h) x = true) (t : T) : tog (hadL (h ++ [x])) t = tog (hadL h) t := by
  have hC : ∀ z ∈ hadL (h ++ [x]), tog (hadL h) z = true := by
    intro z hz
    have := hadL_least (h ++ [x]) (((h ++ [x]).flatMap subT).filter (fun u => tog (hadL h) u)) ?_ ?_ z hz
    · exact (List.mem_filter.1 this).2
    · intro u hu
      refine List.mem_filter.2 ⟨List.mem_flatMap.2 ⟨u, hu, subT_self u⟩, ?_⟩
      rcases List.mem_append.1 hu with hu | hu
      · exact tog_of_mem (hadL_sup h u hu)
      · rw [List.mem_singleton.1 hu]; exact hx
    · intro u hu v hv
      obtain ⟨h1, h2⟩ := List.mem_filter.1 hu
      obtain ⟨w, hw, h3⟩ := List.mem_flatMap.1 h1
      exact List.mem_filter.2 ⟨List.mem_flatMap.2 ⟨w, hw, subT_trans (gives_sub hv) h3⟩, gives_tog (hadL_closed h) (fun y hy => (List.mem_filter.1 hy).2) h2 hv⟩
  cases hb : tog (hadL h) t with
  | true => exact tog_had_mono (fun y hy => List.mem_append.2 (Or.inl hy)) t hb
  | false =>
    cases ha : tog (hadL (h ++ [x])) t with
    | false => rfl
    | true => rw [tog_cut hC t ha] at hb; simp at hb
/-- A pair can be put together just if both parts can. -/
theorem had_pair (h : List T) (a b : T) : tog (hadL h) (.two .p a b) = (tog (hadL h) a && tog (hadL h) b) := by
  cases hc : (hadL h).contains (.two .p a b) with
  | false => simp only [tog]; rw [hc, Bool.false_or]
  | true =>
    have hm := List.contains_iff_mem.1 hc
    have h1 := hadL_closed h _ hm a (by simp [gives])
    have h2 := hadL_closed h _ hm b (by simp [gives])
    rw [tog_of_mem hm, tog_of_mem h1, tog_of_mem h2]; rfl
theorem contains_skip {S : List T} {c t : T} (h : t ≠ c) : (S ++ [c]).contains t = S.contains t := by
  cases hb : S.contains t with
  | true => exact List.contains_iff_mem.2 (List.mem_append.2 (Or.inl (List.contains_iff_mem.1 hb)))
  | false =>
    refine contains_not fun hm => ?_
    rcases List.mem_append.1 hm with hm | hm
    · rw [List.contains_iff_mem.2 hm] at hb; simp at hb
    · exact h (List.mem_singleton.1 hm)
theorem tog_skip {S : List T} {c t : T} (h : c ∉ subT t) : tog (S ++ [c]) t = tog S t := by
  induction t with
  | atom n => exact contains_skip (fun e => h (by rw [← e]; simp [subT]))
  | text s => rfl
  | one k a ih =>
    simp only [tog]
    rw [contains_skip (fun e => h (by rw [← e]; simp [subT])), ih (fun e => h (List.mem_cons_of_mem _ e))]
  | two k a b iha ihb =>
    simp only [tog]
    rw [contains_skip (fun e => h (by rw [← e]; simp [subT])), iha (fun e => h (List.mem_cons_of_mem _ (List.mem_append.2 (Or.inl e)))), ihb (fun e => h (List.mem_cons_of_mem _ (List.mem_append.2 (Or.inr e))))]
theorem gives_skip {S : List T} {c t : T} (h : c ∉ subT t) : gives (S ++ [c]) t = gives S t := by
  cases t with
  | atom n => rfl
  | text s => rfl
  | one k a => rfl
  | two k a b =>
    have ha : c ∉ subT a := fun e => h (List.mem_cons_of_mem _ (List.mem_append.2 (Or.inl e)))
    cases k with
    | p => rfl
    | g => rfl
    | s => simp only [gives]; rw [tog_skip ha]
    | b =>
      cases a with
      | atom n => rfl
      | text s => rfl
      | two k a c => rfl
      | one k a => simp only [gives]; rw [tog_skip (fun e => ha (List.mem_cons_of_mem _ e))]
/-- An atom that stands in nothing that is held is not had. -/
theorem had_none {h : List T} {n : Nat} (hs : ∀ u ∈ h, T.atom n ∉ subT u) : tog (hadL h) (.atom n) = false := by
  refine contains_not fun hm => ?_
  obtain ⟨u, hu, h1⟩ := List.mem_flatMap.1 (hadL_sub h _ hm)
  exact hs u hu h1
/-- An atom that stands alone in what is sealed is had just if the key can be put together. -/
theorem had_key {h : List T} {c key : T} {n : Nat} (hg : ∀ S, gives S c = if tog S key = true then [T.atom n] else []) (hca : T.atom n ∈ subT c) (hne : c ≠ .atom n) (hs : ∀ u ∈ h, T.atom n ∉ subT u) (hk : T.atom n ∉ subT key) :
    tog (hadL (h ++ [c])) (.atom n) = tog (hadL h) key := by
  have hsk : ∀ u, T.atom n ∉ subT u → c ∉ subT u := fun u hu hc => hu (subT_trans hca hc)
  cases hb : tog (hadL h) key with
  | true =>
    have h1 := tog_had_mono (k := h ++ [c]) (fun y hy => List.mem_append.2 (Or.inl hy)) key hb
    exact tog_of_mem (hadL_closed _ c (hadL_sup _ c (by simp)) _ (by rw [hg, if_pos h1]; simp))
  | false =>
    have hsub : ∀ u ∈ hadL h, T.atom n ∉ subT u := by
      intro u hu hm
      obtain ⟨w, hw, h1⟩ := List.mem_flatMap.1 (hadL_sub h _ hu)
      exact hs w hw (subT_trans hm h1)
    have hcl : ClosedT (hadL h ++ [c]) := by
      intro t ht x hx
      rcases List.mem_append.1 ht with ht | ht
      · rw [gives_skip (hsk t (hsub t ht))] at hx
        exact List.mem_append.2 (Or.inl (hadL_closed h t ht x hx))
      · rw [List.mem_singleton.1 ht, hg, tog_skip (hsk key hk), hb, if_neg (by simp)] at hx
        simp at hx
    refine contains_not fun hm => ?_
    have := hadL_least (h ++ [c]) (hadL h ++ [c]) (fun y hy => ?_) hcl _ hm
    · rcases List.mem_append.1 this with h1 | h1
      · exact hsub _ h1 (by simp [subT])
      · exact hne (List.mem_singleton.1 h1).symm
    · rcases List.mem_append.1 hy with h1 | h1
      · exact List.mem_append.2 (Or.inl (hadL_sup h y h1))
      · exact List.mem_append.2 (Or.inr h1)

end Go.Proofs.Ytnieihhnchefdaa
