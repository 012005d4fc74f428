/- Contracts and laws that the statement of LawRightsTell leans on (packed from this claim's own texts): part 3. -/
import Derived.Shelf.Spec.SearchS
import Derived.Test.YtfhanoloaejmkaaDoorQT2
section

namespace Go.Proofs.YtfhanoloaejmkaaDoor
set_option linter.unusedVariables false
instance memDec (x : ByteArray) (l : List ByteArray) : Decidable (x ∈ l) := decidable_of_iff (l.any (fun a => decide (a = x)) = true) (by
 rw [List.any_eq_true]
 constructor
 ·rintro ⟨a, ha, h⟩; exact of_decide_eq_true h ▸ ha
 ·exact fun h => ⟨x, h, decide_eq_true rfl⟩)
def ltB (a b : ByteArray) : Bool := decide (bytes a < bytes b)
theorem ltB_irrefl (a : ByteArray) : ltB a a = false := decide_eq_false (List.lt_irrefl _)
theorem ltB_trans {a b c : ByteArray} (h : ltB a b = true) (k : ltB b c = true) : ltB a c = true := decide_eq_true (List.lt_trans (of_decide_eq_true h) (of_decide_eq_true k))
theorem ltB_asymm {a b : ByteArray} (h : ltB a b = true) : ltB b a = false := by
 cases k : ltB b a with
 | false => rfl
 | true => have := ltB_trans h k; rw [ltB_irrefl] at this; cases this
theorem ltB_tri {a b : ByteArray} (h : ltB a b = false) (k : a ≠ b) : ltB b a = true := by
 have h1 : ¬ bytes a < bytes b := of_decide_eq_false h
 exact decide_eq_true (List.not_le.1 fun h3 => k (bs_inj (List.le_antisymm h3 (List.not_lt.1 h1))))
def risesL : List ByteArray → Bool
 | [] => true
 | [_] => true
 | a :: b :: l => ltB a b && risesL (b :: l)
theorem rises_cons {a : ByteArray} {l : List ByteArray} : risesL (a :: l) = true ↔ (∀ b ∈ l, ltB a b = true) ∧ risesL l = true := by
 induction l generalizing a with
 | nil => simp [risesL]
 | cons b l ih =>
  rw [risesL, Bool.and_eq_true]
  constructor
  ·rintro ⟨h1, h2⟩
   refine ⟨fun c hc => ?_, h2⟩
   rcases List.mem_cons.1 hc with rfl | hc
   ·exact h1
   ·exact ltB_trans h1 ((ih.1 h2).1 c hc)
  ·rintro ⟨h1, h2⟩
   exact ⟨h1 b List.mem_cons_self, h2⟩
theorem rises_iff {l : List ByteArray} : risesL l = true ↔ l.Pairwise fun a b => ltB a b = true := by
 induction l with
 | nil => simp [risesL]
 | cons a l ih => rw [rises_cons, ih, List.pairwise_cons]
theorem rises_get {l : List ByteArray} : risesL l = true ↔ ∀ i, (h : i + 1 < l.length) → ltB (l[i]'(by omega)) l[i + 1] = true := by
 induction l with
 | nil => simp [risesL]
 | cons a l ih =>
  cases l with
  | nil => simp [risesL]
  | cons b l =>
   rw [risesL, Bool.and_eq_true, ih]
   constructor
   ·rintro ⟨h1, h2⟩ i hi
    cases i with
    | zero => exact h1
    | succ i => exact h2 i (by simpa using hi)
   ·intro h
    exact ⟨h 0 (by simp), fun i hi => h (i + 1) (by simpa using hi)⟩
def nth (l : List ByteArray) (i : Nat) : ByteArray := l.getD i ByteArray.empty
theorem nth_get {l : List ByteArray} {i : Nat} (h : i < l.length) : nth l i = l[i] := by
 unfold nth; rw [List.getD_eq_getElem?_getD, List.getElem?_eq_getElem h]; rfl
def searchN (l : List ByteArray) (x : ByteArray) : Nat := Lib.bsGo (fun t => ltB (nth l t) x) l.length 0 l.length
def searchB (l : List ByteArray) (x : ByteArray) : Bool := decide (searchN l x < l.length ∧ nth l (searchN l x) = x)
def below (l : List ByteArray) (x : ByteArray) : List ByteArray := l.takeWhile fun a => ltB a x
def above (l : List ByteArray) (x : ByteArray) : List ByteArray := l.dropWhile fun a => ltB a x
theorem below_above (l : List ByteArray) (x : ByteArray) : below l x ++ above l x = l := List.takeWhile_append_dropWhile
theorem below_lt {l : List ByteArray} {x a : ByteArray} (h : a ∈ below l x) : ltB a x = true := by
 induction l with
 | nil => cases h
 | cons b l ih =>
  unfold below at h
  rw [List.takeWhile_cons] at h
  split at h
  ·rename_i hb
   rcases List.mem_cons.1 h with rfl | h
   ·exact hb
   ·exact ih h
  ·cases h
theorem above_not {l : List ByteArray} {x a : ByteArray} (hr : risesL l = true) (h : a ∈ above l x) : ltB a x = false := by
 induction l with
 | nil => cases h
 | cons b l ih =>
  unfold above at h
  rw [List.dropWhile_cons] at h
  have hc := rises_cons.1 hr
  split at h
  ·exact ih hc.2 h
  ·rename_i hb
   have hb' : ltB b x = false := by simpa using hb
   rcases List.mem_cons.1 h with rfl | h
   ·exact hb'
   ·cases k : ltB a x with
    | false => rfl
    | true => rw [ltB_trans (hc.1 a h) k] at hb'; cases hb'
theorem below_len (l : List ByteArray) (x : ByteArray) : (below l x).length ≤ l.length := by
 have := congrArg List.length (below_above l x)
 rw [List.length_append] at this; omega
theorem nth_mem_below {l : List ByteArray} {x : ByteArray} {i : Nat} (h : i < (below l x).length) : nth l i ∈ below l x := by
 have h2 := below_len l x
 rw [nth_get (by omega)]
 have : l[i]'(by omega) = (below l x)[i] := by
  have h3 : (below l x ++ above l x)[i]? = l[i]? := by rw [below_above]
  rw [List.getElem?_append_left h, List.getElem?_eq_getElem h, List.getElem?_eq_getElem (by omega)] at h3
  exact (Option.some.inj h3).symm
 rw [this]; exact List.getElem_mem h
theorem nth_mem_above {l : List ByteArray} {x : ByteArray} {i : Nat} (h : (below l x).length ≤ i) (hi : i < l.length) : nth l i ∈ above l x := by
 rw [nth_get hi]
 have h3 : (below l x ++ above l x)[i]? = l[i]? := by rw [below_above]
 rw [List.getElem?_append_right h, List.getElem?_eq_getElem hi] at h3
 exact List.mem_of_getElem? h3
theorem searchN_eq {l : List ByteArray} {x : ByteArray} (hr : risesL l = true) : searchN l x = (below l x).length := by
 unfold searchN
 have hl := below_len l x
 have key : ∀ (f : Nat → Bool), (∀ t, t < (below l x).length → f t = true) → (∀ t, (below l x).length ≤ t → t < l.length → f t = false) → ∀ (n lo hi : Nat), hi - lo ≤ n → hi ≤ l.length → lo ≤ (below l x).length → (below l x).length ≤ hi → Lib.bsGo f n lo hi = (below l x).length := by
  intro f h1 h2 n
  induction n with
  | zero => intro lo hi hf hh a b; simp [Lib.bsGo]; omega
  | succ n ih =>
   intro lo hi hf hh a b
   unfold Lib.bsGo
   by_cases h : lo < hi
   ·rw [if_pos h]
    by_cases hm : (lo + hi) / 2 < (below l x).length
    ·rw [h1 _ hm, if_pos rfl]; exact ih _ _ (by omega) hh (by omega) b
    ·rw [h2 _ (by omega) (by omega)]; exact ih _ _ (by omega) (by omega) a (by omega)
   ·rw [if_neg h]; omega
 exact key _ (fun t ht => below_lt (nth_mem_below ht)) (fun t h1 h2 => above_not hr (nth_mem_above h1 h2)) _ _ _ (by omega) (Nat.le_refl _) (Nat.zero_le _) hl
theorem searchB_eq {l : List ByteArray} {x : ByteArray} (hr : risesL l = true) : searchB l x = decide (x ∈ l) := by
 unfold searchB
 rw [searchN_eq hr]
 by_cases hx : x ∈ l
 ·rw [decide_eq_true hx]
  refine decide_eq_true ?_
  have h1 : x ∈ above l x := by
   have h2 : x ∈ below l x ++ above l x := by rw [below_above]; exact hx
   rcases List.mem_append.1 h2 with h3 | h3
   ·have := below_lt h3; rw [ltB_irrefl] at this; cases this
   ·exact h3
  obtain ⟨k, rest, hk⟩ : ∃ k rest, above l x = k :: rest := by cases h : above l x with | nil => rw [h] at h1; cases h1 | cons k r => exact ⟨k, r, rfl⟩
  have hlen : (below l x).length < l.length := by
   have := congrArg List.length (below_above l x)
   rw [List.length_append, hk, List.length_cons] at this; omega
  refine ⟨hlen, ?_⟩
  have h4 : nth l (below l x).length = k := by
   rw [nth_get hlen]
   have h3 : (below l x ++ above l x)[(below l x).length]? = l[(below l x).length]? := by rw [below_above]
   rw [List.getElem?_append_right (Nat.le_refl _), Nat.sub_self, hk, List.getElem?_eq_getElem hlen] at h3
   exact (Option.some.inj h3).symm
  rw [h4]
  rw [hk] at h1
  rcases List.mem_cons.1 h1 with rfl | h5
  ·rfl
  ·have hsub : risesL (k :: rest) = true := by
    have h6 : risesL (below l x ++ above l x) = true := by rw [below_above]; exact hr
    rw [rises_iff] at h6 ⊢
    rw [← hk]
    exact (List.pairwise_append.1 h6).2.1
   have h7 := (rises_cons.1 hsub).1 x h5
   have h8 := above_not hr (show k ∈ above l x by rw [hk]; exact List.mem_cons_self)
   rw [h7] at h8; cases h8
 ·rw [decide_eq_false hx]
  refine decide_eq_false ?_
  rintro ⟨h1, h2⟩
  rw [nth_get h1] at h2
  exact hx (h2 ▸ List.getElem_mem h1)
def insL (l : List ByteArray) (x : ByteArray) : List ByteArray := below l x ++ x :: above l x
def dropL (l : List ByteArray) (x : ByteArray) : List ByteArray := l.filter fun a => !decide (a = x)
theorem ins_len (l : List ByteArray) (x : ByteArray) : (insL l x).length = l.length + 1 := by
 have := congrArg List.length (below_above l x)
 unfold insL
 rw [List.length_append] at this
 rw [List.length_append, List.length_cons]; omega
theorem mem_ins {l : List ByteArray} {x a : ByteArray} : a ∈ insL l x ↔ a = x ∨ a ∈ l := by
 unfold insL
 rw [List.mem_append, List.mem_cons]
 constructor
 ·rintro (h | h | h)
  ·exact Or.inr (by rw [← below_above l x]; exact List.mem_append_left _ h)
  ·exact Or.inl h
  ·exact Or.inr (by rw [← below_above l x]; exact List.mem_append_right _ h)
 ·rintro (h | h)
  ·exact Or.inr (Or.inl h)
  ·rw [← below_above l x] at h
   rcases List.mem_append.1 h with h | h
   ·exact Or.inl h
   ·exact Or.inr (Or.inr h)
theorem ins_rises {l : List ByteArray} {x : ByteArray} (hr : risesL l = true) (hx : x ∉ l) : risesL (insL l x) = true := by
 rw [rises_iff]
 have h6 : risesL (below l x ++ above l x) = true := by rw [below_above]; exact hr
 have h7 := List.pairwise_append.1 (rises_iff.1 h6)
 unfold insL
 have hab : ∀ a ∈ above l x, ltB x a = true := fun a ha => ltB_tri (above_not hr ha) (fun e => hx (by rw [← e, ← below_above l x]; exact List.mem_append_right _ ha))
 refine List.pairwise_append.2 ⟨h7.1, List.pairwise_cons.2 ⟨hab, h7.2.1⟩, fun a ha b hb => ?_⟩
 rcases List.mem_cons.1 hb with rfl | hb
 ·exact below_lt ha
 ·exact h7.2.2 a ha b hb
theorem mem_drop {l : List ByteArray} {x a : ByteArray} : a ∈ dropL l x ↔ a ∈ l ∧ a ≠ x := by
 unfold dropL; rw [List.mem_filter]; simp
theorem drop_rises {l : List ByteArray} {x : ByteArray} (hr : risesL l = true) : risesL (dropL l x) = true := rises_iff.2 ((rises_iff.1 hr).sublist List.filter_sublist)
theorem drop_len (l : List ByteArray) (x : ByteArray) : (dropL l x).length ≤ l.length := List.length_filter_le _ _
theorem drop_none {l : List ByteArray} {x : ByteArray} (h : x ∉ l) : dropL l x = l := by
 unfold dropL
 rw [List.filter_eq_self]
 intro a ha
 simp only [Bool.not_eq_true', decide_eq_false_iff_not]
 exact fun e => h (e ▸ ha)
theorem take_below (l : List ByteArray) (x : ByteArray) : l.take (below l x).length = below l x ∧ l.drop (below l x).length = above l x :=
 ⟨(congrArg (List.take (below l x).length) (below_above l x).symm).trans List.take_left, (congrArg (List.drop (below l x).length) (below_above l x).symm).trans List.drop_left⟩
theorem ins_take {l : List ByteArray} {x : ByteArray} (hr : risesL l = true) : l.take (searchN l x) ++ x :: l.drop (searchN l x) = insL l x := by
 rw [searchN_eq hr, (take_below l x).1, (take_below l x).2]; rfl
theorem search_le {l : List ByteArray} {x : ByteArray} (hr : risesL l = true) : searchN l x ≤ l.length := by
 rw [searchN_eq hr]; exact below_len l x
structure Rt where
 o : ByteArray
 f : ByteArray
 e : Int
 rs : List ByteArray
 ws : List ByteArray
def noRt : Rt := ⟨⟨#[]⟩, ⟨#[]⟩, 0, [], []⟩
def listedL (l : List ByteArray) (o : ByteArray) : Bool := l.all (fun s => rightN (bytes s) && !decide (s = o)) && risesL l
def rightR (r : Rt) : Bool := rightN (bytes r.o) && rightN (bytes r.f) && decide (0 ≤ r.e ∧ r.e ≤ 7) && decide (r.rs.length + r.ws.length ≤ 5) && listedL r.rs r.o && listedL r.ws r.o && r.rs.all (fun s => !decide (s ∈ r.ws))
def canF (r : Rt) (u : ByteArray) (w : Bool) : Bool := rightR r && (decide (u = r.o) || decide (u ∈ r.ws) || !w && decide (u ∈ r.rs))
def newF (o f : ByteArray) : Rt × Int := if rightN (bytes o) && rightN (bytes f) then (⟨o, f, 0, [], []⟩, 0) else (noRt, 3)
def grantF (r : Rt) (u : ByteArray) (w : Bool) : Rt × Int :=
 if rightR r = false then (noRt, 1) else if rightN (bytes u) = false then (noRt, 3) else if u = r.o ∨ u ∈ r.rs ∨ u ∈ r.ws then (noRt, 5) else if 5 ≤ r.rs.length + r.ws.length then (noRt, 10)
 else (if w then ⟨r.o, r.f, r.e, r.rs, insL r.ws u⟩ else ⟨r.o, r.f, r.e, insL r.rs u, r.ws⟩, 0)
def revokeF (r : Rt) (u : ByteArray) : Rt × Int :=
 if rightR r = false then (noRt, 1) else if rightN (bytes u) = false then (noRt, 3) else if ¬ (u ∈ r.rs ∨ u ∈ r.ws) then (noRt, 4) else if r.e = 7 then (noRt, 9)
 else (⟨r.o, r.f, r.e + 1, dropL r.rs u, dropL r.ws u⟩, 0)
theorem right_walk (r : Rt) : (rightN (bytes r.o) && rightN (bytes r.f) && decide (0 ≤ r.e ∧ r.e ≤ 7) && decide (r.rs.length + r.ws.length ≤ 5) && risesL r.rs && risesL r.ws && (r.rs ++ r.ws).all fun s => rightN (bytes s) && !decide (s = r.o) && !(searchB r.rs s && searchB r.ws s)) = rightR r := by
 unfold rightR listedL
 cases rightN (bytes r.o) with
 | false => simp
 | true =>
 cases rightN (bytes r.f) with
 | false => simp
 | true =>
 cases decide (0 ≤ r.e ∧ r.e ≤ 7) with
 | false => simp
 | true =>
 cases decide (r.rs.length + r.ws.length ≤ 5) with
 | false => simp
 | true =>
 cases h1 : risesL r.rs with
 | false => simp
 | true =>
 cases h2 : risesL r.ws with
 | false => simp
 | true =>
 simp only [Bool.true_and, Bool.and_true, List.all_append]
 rw [Bool.eq_iff_iff]
 simp only [Bool.and_eq_true, List.all_eq_true, searchB_eq h1, searchB_eq h2, Bool.not_eq_true', Bool.and_eq_false_iff, decide_eq_false_iff_not]
 constructor
 ·rintro ⟨a, b⟩
  refine ⟨⟨fun s hs => (a s hs).1, fun s hs => (b s hs).1⟩, fun s hs => ?_⟩
  rcases (a s hs).2 with h | h
  ·exact absurd hs h
  ·exact h
 ·rintro ⟨⟨a, b⟩, c⟩
  refine ⟨fun s hs => ⟨a s hs, Or.inr (c s hs)⟩, fun s hs => ⟨b s hs, ?_⟩⟩
  by_cases h : s ∈ r.rs
  ·exact absurd hs (c s h)
  ·exact Or.inl h
theorem right_parts {r : Rt} (h : rightR r = true) : rightN (bytes r.o) = true ∧ rightN (bytes r.f) = true ∧ (0 ≤ r.e ∧ r.e ≤ 7) ∧ r.rs.length + r.ws.length ≤ 5 ∧ risesL r.rs = true ∧ risesL r.ws = true ∧ (∀ s ∈ r.rs, rightN (bytes s) = true ∧ s ≠ r.o) ∧ (∀ s ∈ r.ws, rightN (bytes s) = true ∧ s ≠ r.o) ∧ ∀ s ∈ r.rs, s ∉ r.ws := by
 unfold rightR listedL at h
 simp only [Bool.and_eq_true, List.all_eq_true, decide_eq_true_eq, Bool.not_eq_true', decide_eq_false_iff_not] at h
 obtain ⟨⟨⟨⟨⟨⟨h1, h2⟩, h3⟩, h4⟩, h5, h6⟩, h7, h8⟩, h9⟩ := h
 exact ⟨h1, h2, h3, h4, h6, h8, h5, h7, h9⟩
theorem right_mk {r : Rt} (h1 : rightN (bytes r.o) = true) (h2 : rightN (bytes r.f) = true) (h3 : 0 ≤ r.e ∧ r.e ≤ 7) (h4 : r.rs.length + r.ws.length ≤ 5) (h5 : risesL r.rs = true) (h6 : risesL r.ws = true) (h7 : ∀ s ∈ r.rs, rightN (bytes s) = true ∧ s ≠ r.o) (h8 : ∀ s ∈ r.ws, rightN (bytes s) = true ∧ s ≠ r.o) (h9 : ∀ s ∈ r.rs, s ∉ r.ws) : rightR r = true := by
 unfold rightR listedL
 simp only [Bool.and_eq_true, List.all_eq_true, decide_eq_true_eq, Bool.not_eq_true', decide_eq_false_iff_not]
 exact ⟨⟨⟨⟨⟨⟨h1, h2⟩, h3⟩, h4⟩, h7, h5⟩, h8, h6⟩, h9⟩
end Go.Proofs.YtfhanoloaejmkaaDoor
end
