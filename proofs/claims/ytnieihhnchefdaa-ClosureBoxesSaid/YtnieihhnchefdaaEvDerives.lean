/- What closure's contracts come to at right terms. -/
import Derived.Test.YtnieihhnchefdaaEvBase
namespace Go.Proofs.Ytnieihhnchefdaa.Ref
open Go.RowKit Go.Proofs.Ytnieihhnchefdaa Go.Proofs.Ytnieihhnchefdaa.PA Go.Proofs.YtnieihhnchefdaaW.PrintWords Go.Proofs.YtnieihhnchefdaaW.PrintLast
set_option linter.unusedVariables false

theorem right_all {ts : List T} (h : ∀ t ∈ ts, Wf t) : (ts.map tm).all right = true := by
  refine List.all_eq_true.2 fun s hs => ?_
  obtain ⟨t, ht, rfl⟩ := List.mem_map.1 hs
  exact right_tm (h t ht)
theorem termsOf_tm {ts : List T} (h : ∀ t ∈ ts, Wf t) : termsOf (ts.map tm) = ts := by
  induction ts with
  | nil => rfl
  | cons t ts ih =>
    have h1 := ih (fun x hx => h x (List.mem_cons_of_mem _ hx))
    have h2 : termOf (bytes (tm t)) = some t := by rw [bytes_tm]; exact termOf_enc (h t List.mem_cons_self)
    unfold termsOf at h1 ⊢
    rw [List.map_cons, List.filterMap_cons, h2]
    simp only
    rw [h1]
theorem derives_tm {ts : List T} {t : T} (h : ∀ t ∈ ts, Wf t) (hl : ts.length ≤ 200) (ht : Wf t) : closure_Derives.f (ts.map tm) (tm t) = some (tog (hadL ts) t, 0) := by
  unfold closure_Derives.f
  rw [if_pos]
  · unfold derivesF
    rw [if_pos (right_all h), if_neg (by rw [List.length_map]; omega), if_pos (right_tm ht), termsOf_tm h]
    rw [show tm t = tB t from rfl, togB_tB _ ht]
  · refine ⟨by rw [List.length_map]; omega, List.all_eq_true.2 fun s hs => ?_, by rw [size_tm]; have := ht.2; omega⟩
    obtain ⟨u, hu, rfl⟩ := List.mem_map.1 hs
    rw [size_tm]
    have := (h u hu).2
    exact decide_eq_true (by omega)
theorem tog_closed {ts : List T} (h : ClosedT ts) (t : T) : tog (hadL ts) t = tog ts t :=
  tog_congr (fun x => (hadL_iff (h := ts) (C := ts) (fun x hx => hx) h (fun x hx => hadL_sup ts x hx) x).symm) t
/-- Hashes, publics and atoms give nothing. -/
theorem closed_plain {ts : List T} (h : ∀ t ∈ ts, (∃ k a, t = .one k a) ∨ (∃ n, t = .atom n)) : ClosedT ts := by
  intro t ht x hx
  rcases h t ht with ⟨k, a, rfl⟩ | ⟨n, rfl⟩ <;> simp [gives] at hx
theorem contains_false {S : List T} {t : T} (h : t ∉ S) : S.contains t = false := by
  cases hc : S.contains t with
  | false => rfl
  | true => exact absurd (List.contains_iff_mem.1 hc) h
theorem tog_mem {S : List T} {t : T} (h : t ∈ S) : tog S t = true := by
  have h := List.contains_iff_mem.2 h
  cases t with
  | atom n => exact h
  | text n => rfl
  | one k a => simp only [tog]; rw [h, Bool.true_or]
  | two k a b => simp only [tog]; rw [h, Bool.true_or]
/-! ### What is made of right terms -/
def code1 (k : K1) : ByteArray := ⟨#[k.code]⟩
def code2 (k : K2) : ByteArray := ⟨#[k.code]⟩
theorem cat_one (k : K1) (t : T) : catB (code1 k) [tm t] = tm (.one k t) := bs_inj (by
  show bytes (code1 k ++ tm t) = _
  rw [bytes_append, bytes_tm, bytes_tm]; rfl)
theorem cat_two (k : K2) (a b : T) : catB (code2 k) [tm a, tm b] = tm (.two k a b) := bs_inj (by
  show bytes ((code2 k ++ tm a) ++ tm b) = _
  rw [bytes_append, bytes_append, bytes_tm, bytes_tm, bytes_tm]
  simp only [enc, List.append_assoc]
  rfl)
theorem wf_one {k : K1} {t : T} (h : Wf (.one k t)) : Wf t := ⟨ok_mono (d := 39) (show ok 39 t from h.1) (by omega), by have := h.2; simp only [enc, List.length_cons] at this; omega⟩
theorem wf_two {k : K2} {a b : T} (h : Wf (.two k a b)) : Wf a ∧ Wf b :=
  ⟨⟨ok_mono (d := 39) h.1.1 (by omega), by have := h.2; simp only [enc, List.length_cons, List.length_append] at this; omega⟩,
   ⟨ok_mono (d := 39) h.1.2.1 (by omega), by have := h.2; simp only [enc, List.length_cons, List.length_append] at this; omega⟩⟩
theorem one_tm {k : K1} {t : T} (h : Wf (.one k t)) : ofF (code1 k) [tm t] = (tm (.one k t), 0) := by
  unfold ofF
  rw [cat_one, if_pos (by simp [right_tm (wf_one h)]), if_pos (right_tm h)]
theorem two_tm {k : K2} {a b : T} (h : Wf (.two k a b)) : ofF (code2 k) [tm a, tm b] = (tm (.two k a b), 0) := by
  unfold ofF
  rw [cat_two, if_pos (by simp [right_tm (wf_two h).1, right_tm (wf_two h).2]), if_pos (right_tm h)]
theorem wf_inj {s t : T} (hs : Wf s) (ht : Wf t) (h : tm s = tm t) : s = t := enc_inj hs.1 ht.1 (by rw [← bytes_tm, ← bytes_tm, h])
theorem wf_of_tm {t : T} {d : Nat} (hd : ok d t) (h : right (tm t) = true) : Wf t := by
  obtain ⟨u, hu, he⟩ := right_inv h
  rw [bytes_tm] at he
  have := enc_inj (d := max d 40) (ok_mono hd (Nat.le_max_left _ _)) (ok_mono hu.1 (Nat.le_max_right _ _)) he
  rw [this]; exact hu
/-- Of right terms: it is made, and right, or too great. -/
theorem one_cases (k : K1) {t : T} (ht : Wf t) : (ofF (code1 k) [tm t] = (tm (.one k t), 0) ∧ Wf (.one k t)) ∨ ofF (code1 k) [tm t] = (⟨#[]⟩, 10) := by
  unfold ofF
  rw [cat_one, if_pos (by simp [right_tm ht])]
  cases hr : right (tm (.one k t)) with
  | true => exact Or.inl ⟨by rw [if_pos rfl], wf_of_tm (d := 41) ht.1 hr⟩
  | false => exact Or.inr (by rw [if_neg (by simp)])
theorem two_cases (k : K2) {a b : T} (ha : Wf a) (hb : Wf b) (hp : k = .b → a.isPub = true) : (ofF (code2 k) [tm a, tm b] = (tm (.two k a b), 0) ∧ Wf (.two k a b)) ∨ ofF (code2 k) [tm a, tm b] = (⟨#[]⟩, 10) := by
  unfold ofF
  rw [cat_two, if_pos (by simp [right_tm ha, right_tm hb])]
  cases hr : right (tm (.two k a b)) with
  | true => exact Or.inl ⟨by rw [if_pos rfl], wf_of_tm (d := 41) ⟨ha.1, hb.1, hp⟩ hr⟩
  | false => exact Or.inr (by rw [if_neg (by simp)])
theorem public_val (s : ByteArray) (h : s.size ≤ 9223372036854774000) : term_OfPublic.f s = some (ofF (code1 .u) [s]) := by
  unfold term_OfPublic.f
  rw [of_val _ _ (by rw [size_one]; omega) (by simp) (by simpa using h)]
  rfl
theorem tm_list (t : T) : (tm t).toList = enc t := by rw [bytes_toList, bytes_tm]
theorem tm_size_le {t : T} (h : Wf t) : (tm t).size ≤ 4000 := by rw [size_tm]; exact h.2

end Go.Proofs.Ytnieihhnchefdaa.Ref
