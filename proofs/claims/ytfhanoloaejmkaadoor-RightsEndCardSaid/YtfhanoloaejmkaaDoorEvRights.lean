/- What the printed words of rights come to: whether a list rises, whether rights are right, what is asked of them, who may; and the contracts in plain words. -/
import Derived.Test.YtfhanoloaejmkaaDoorPBx3
import Derived.Test.YtfhanoloaejmkaaDoorRights
import Derived.Test.YtfhanoloaejmkaaDoorEvCore
namespace Go.Proofs.YtfhanoloaejmkaaDoor.Ref
open Go.RowKit Go.Proofs.YtfhanoloaejmkaaDoor Go.Proofs.YtfhanoloaejmkaaDoor.PB Go.Proofs.YtfhanoloaejmkaaDoorW.PrintWords Go.Proofs.YtfhanoloaejmkaaDoorW.PrintLast
set_option linter.unusedVariables false

theorem list_eq (a b : ByteArray) : a.toList = b.toList ↔ a = b := ⟨fun h => bs_inj (by rwa [bytes_toList, bytes_toList] at h), fun h => by rw [h]⟩
theorem rdOf_nth (l : List ByteArray) (i : Nat) : rdOf ByteArray.empty l (i : Int) = nth l i := by
  unfold rdOf nth; rw [Int.toNat_natCast]
theorem has_val (l : List ByteArray) (x : ByteArray) (h : l.length ≤ 140737488355328) : rights_has_string.f l x = some (searchB l x) := by
  unfold rights_has_string.f rights_place.f
  rw [if_pos h]; rfl
theorem right_val (a : ByteArray) (h : a.size ≤ 9223372036854775807) : name_Right.f a = some (rightN (bytes a)) := by unfold name_Right.f; rw [if_pos h]

/-! ### Lists that rise -/
theorem rises_loop (l : List ByteArray) (hl : l.length ≤ 1000000) (m i : Nat) (hm : i + m = l.length) (h : ∀ j, j + 1 < i → (h : j + 1 < l.length) → ltB (l[j]'(by omega)) l[j + 1] = true) :
    Ev (fun k => rights_rises_string.l0 k l (l.length : Int) (i : Int)) (risesL l) := by
  induction m generalizing i with
  | zero =>
    refine Ev.step (fun _ => rfl) (Ev.neg (by omega) ?_)
    have : risesL l = true := rises_get.2 fun j hj => h j (by omega) hj
    rw [this]; exact Ev.now _
  | succ m ih =>
    refine Ev.step (fun _ => rfl) (Ev.pos (by omega) ?_)
    by_cases h0 : i = 0
    · subst h0
      refine Ev.neg (by omega) ?_
      rw [show wrap64 (((0 : Nat) : Int) + 1) = ((1 : Nat) : Int) by rw [w64 (by omega) (by omega)]; rfl]
      exact ih 1 (by omega) (fun j hj => by omega)
    · obtain ⟨j, rfl⟩ : ∃ j, i = j + 1 := ⟨i - 1, by omega⟩
      have e1 : wrap64 (((j + 1 : Nat) : Int) - 1) = (j : Int) := by rw [w64 (by omega) (by omega)]; omega
      have e2 : wrap64 (((j + 1 : Nat) : Int) + 1) = ((j + 2 : Nat) : Int) := by rw [w64 (by omega) (by omega)]; omega
      rw [e1, e2, rdOf_nth, rdOf_nth, lessB]
      refine Ev.pos (by omega) (Ev.pos (by omega) (Ev.pos (by omega) (Ev.pos (by omega) (Ev.pos (by omega) ?_))))
      have e3 : ltB (nth l j) (nth l (j + 1)) = ltB (l[j]'(by omega)) (l[j + 1]'(by omega)) := by rw [nth_get (by omega), nth_get (by omega)]
      by_cases hlt : ltB (nth l j) (nth l (j + 1)) = true
      · refine Ev.pos hlt (ih (j + 2) (by omega) (fun q hq hq2 => ?_))
        by_cases hqj : q = j
        · subst hqj; rw [← e3]; exact hlt
        · exact h q (by omega) hq2
      · refine Ev.neg hlt ?_
        have : risesL l = false := by
          cases hr : risesL l with
          | false => rfl
          | true => exact absurd (e3 ▸ rises_get.1 hr j (by omega)) hlt
        rw [this]; exact Ev.now _
theorem rises_ev (l : List ByteArray) (hl : l.length ≤ 1000000) : Ev (fun k => rights_rises_string.f k l) (risesL l) := rises_loop l hl l.length 0 (by omega) (fun j hj => by omega)

/-! ### Rights that are right -/
def smallS (s : ByteArray) : Bool := decide (s.size ≤ 1000000)
def smallR (r : Rt) : Bool := smallS r.o && smallS r.f && decide (-9223372036854775808 ≤ r.e ∧ r.e ≤ 9223372036854775807) && decide (r.rs.length ≤ 1000) && decide (r.ws.length ≤ 1000) && r.rs.all smallS && r.ws.all smallS
theorem small_parts {r : Rt} (h : smallR r = true) : r.o.size ≤ 1000000 ∧ r.f.size ≤ 1000000 ∧ (-9223372036854775808 ≤ r.e ∧ r.e ≤ 9223372036854775807) ∧ r.rs.length ≤ 1000 ∧ r.ws.length ≤ 1000 ∧ (∀ s ∈ r.rs, s.size ≤ 1000000) ∧ ∀ s ∈ r.ws, s.size ≤ 1000000 := by
  unfold smallR smallS at h
  simp only [Bool.and_eq_true, List.all_eq_true, decide_eq_true_eq] at h
  obtain ⟨⟨⟨⟨⟨⟨h1, h2⟩, h3⟩, h4⟩, h5⟩, h6⟩, h7⟩ := h
  exact ⟨h1, h2, h3, h4, h5, h6, h7⟩
theorem small_mk {r : Rt} (h1 : r.o.size ≤ 1000000) (h2 : r.f.size ≤ 1000000) (h3 : -9223372036854775808 ≤ r.e ∧ r.e ≤ 9223372036854775807) (h4 : r.rs.length ≤ 1000) (h5 : r.ws.length ≤ 1000) (h6 : ∀ s ∈ r.rs, s.size ≤ 1000000) (h7 : ∀ s ∈ r.ws, s.size ≤ 1000000) : smallR r = true := by
  unfold smallR smallS
  simp only [Bool.and_eq_true, List.all_eq_true, decide_eq_true_eq]
  exact ⟨⟨⟨⟨⟨⟨h1, h2⟩, h3⟩, h4⟩, h5⟩, h6⟩, h7⟩

theorem right_loop (l : List ByteArray) (o f : ByteArray) (e : Int) (rs ws : List ByteArray) (hl : l.length ≤ 1000000) (hs : ∀ s ∈ l, s.size ≤ 1000000) (hr : rs.length ≤ 1000) (hw : ws.length ≤ 1000) (m i : Nat) (hm : i + m = l.length) :
    Ev (fun k => rights_Right.l0 k l (l.length : Int) (i : Int) o f e rs ws) ((l.drop i).all fun s => rightN (bytes s) && !decide (s = o) && !(searchB rs s && searchB ws s)) := by
  induction m generalizing i with
  | zero =>
    rw [List.drop_eq_nil_of_le (by omega)]
    exact Ev.step (fun _ => rfl) (Ev.neg (by omega) (Ev.now _))
  | succ m ih =>
    have hi : i < l.length := by omega
    have ih := ih (i + 1) (by omega)
    have hsz := hs l[i] (List.getElem_mem hi)
    rw [List.drop_eq_getElem_cons hi, List.all_cons]
    refine Ev.step (fun _ => rfl) (Ev.pos (by omega) (Ev.pos (by omega) (Ev.pos (by omega) ?_)))
    rw [rdOf_nth, nth_get hi, w64 (n := (i : Int) + 1) (by omega) (by omega)]
    refine Ev.put (right_val _ (by omega)) ?_
    cases h1 : rightN (bytes l[i]) with
    | false => exact Ev.neg (by simp) (Ev.now _)
    | true =>
      refine Ev.pos rfl ?_
      by_cases h2 : l[i] = o
      · rw [decide_eq_true h2]
        exact Ev.pos ((list_eq _ _).2 h2) (Ev.now _)
      · rw [decide_eq_false h2]
        refine Ev.neg (fun h => h2 ((list_eq _ _).1 h)) ?_
        refine Ev.put (has_val _ _ (by omega)) ?_
        cases h3 : searchB rs l[i] with
        | false =>
          refine Ev.neg (by simp) ?_
          simpa using ih
        | true =>
          refine Ev.pos rfl ?_
          refine Ev.put (has_val _ _ (by omega)) ?_
          cases h4 : searchB ws l[i] with
          | true => exact Ev.pos rfl (Ev.now _)
          | false =>
            refine Ev.neg (by simp) ?_
            simpa using ih
theorem right_ev (r : Rt) (h : smallR r = true) : Ev (fun k => rights_Right.f k r.o r.f r.e r.rs r.ws) (rightR r) := by
  obtain ⟨h1, h2, h3, h4, h5, h6, h7⟩ := small_parts h
  have hno : ∀ b : Bool, (∀ k, rights_Right.j0 (k + 1) b r.o r.f r.e r.rs r.ws = if b = true then some false else (slices_Concat.f [r.rs, r.ws]).bind fun t => rights_Right.l0 k t (t.length : Int) 0 r.o r.f r.e r.rs r.ws) := fun b k => rfl
  have hbad : Ev (fun k => rights_Right.j0 k true r.o r.f r.e r.rs r.ws) false := Ev.step (hno true) (Ev.pos rfl (Ev.now _))
  rw [← right_walk]
  unfold rights_Right.f
  refine Ev.put (right_val _ (by omega)) ?_
  cases rightN (bytes r.o) with
  | false => exact Ev.neg (by simp) (ev_cast hbad (by simp))
  | true =>
  refine Ev.pos rfl (Ev.put (right_val _ (by omega)) ?_)
  cases rightN (bytes r.f) with
  | false => exact Ev.neg (by simp) (ev_cast hbad (by simp))
  | true =>
  refine Ev.pos rfl ?_
  by_cases c1 : r.e < 0
  · refine Ev.pos c1 (ev_cast hbad ?_)
    rw [decide_eq_false (by omega)]; simp
  refine Ev.neg c1 ?_
  by_cases c2 : r.e ≥ 8
  · refine Ev.pos c2 (ev_cast hbad ?_)
    rw [decide_eq_false (by omega)]; simp
  refine Ev.neg c2 ?_
  rw [decide_eq_true (show 0 ≤ r.e ∧ r.e ≤ 7 by omega), w64 (n := (r.rs.length : Int) + r.ws.length) (by omega) (by omega)]
  by_cases c3 : (r.rs.length : Int) + r.ws.length > 5
  · refine Ev.pos c3 (ev_cast hbad ?_)
    rw [decide_eq_false (by omega)]; simp
  refine Ev.neg c3 ?_
  rw [decide_eq_true (show r.rs.length + r.ws.length ≤ 5 by omega)]
  refine Ev.bind (rises_ev r.rs (by omega)) ?_
  cases risesL r.rs with
  | false => exact Ev.neg (by simp) (ev_cast hbad (by simp))
  | true =>
  refine Ev.pos rfl (Ev.bind (rises_ev r.ws (by omega)) ?_)
  cases risesL r.ws with
  | false => exact ev_cast hbad (by simp)
  | true =>
  refine Ev.step (hno _) (Ev.neg (by simp) ?_)
  have hc : slices_Concat.f [r.rs, r.ws] = some (r.rs ++ r.ws) := by
    unfold slices_Concat.f
    rw [if_pos (by simp; omega)]
    simp
  refine Ev.put hc ?_
  have hlen : (r.rs ++ r.ws).length ≤ 1000000 := by rw [List.length_append]; omega
  refine ev_cast (right_loop (r.rs ++ r.ws) r.o r.f r.e r.rs r.ws hlen (fun s hs => (List.mem_append.1 hs).elim (h6 s) (h7 s)) h4 h5 (r.rs ++ r.ws).length 0 (by omega)) ?_
  simp only [List.drop_zero, Bool.true_and]

def askedF (r : Rt) (u : ByteArray) : Int := if rightR r = true then (if rightN (bytes u) = true then 0 else 3) else 1
theorem asked_ev (r : Rt) (u : ByteArray) (h : smallR r = true) (hu : u.size ≤ 1000000) : Ev (fun k => rights_asked.f k r.o r.f r.e r.rs r.ws u) (askedF r u) := by
  unfold rights_asked.f askedF
  refine Ev.bind (right_ev r h) ?_
  cases rightR r with
  | false => exact Ev.neg (by simp) (Ev.now _)
  | true =>
    refine Ev.pos rfl (Ev.put (right_val _ (by omega)) ?_)
    cases rightN (bytes u) with
    | false => exact Ev.neg (by simp) (Ev.now _)
    | true => exact Ev.pos rfl (Ev.now _)
theorem can_ev (r : Rt) (u : ByteArray) (w : Bool) (h : smallR r = true) : Ev (fun k => rights_Can.f k r.o r.f r.e r.rs r.ws u w) (canF r u w) := by
  obtain ⟨h1, h2, h3, h4, h5, h6, h7⟩ := small_parts h
  unfold rights_Can.f canF
  refine Ev.bind (right_ev r h) ?_
  cases hr : rightR r with
  | false => exact Ev.neg (by simp) (Ev.now _)
  | true =>
    have hp := right_parts hr
    refine Ev.pos rfl ?_
    by_cases e1 : u = r.o
    · rw [decide_eq_true e1]
      exact Ev.pos ((list_eq _ _).2 e1) (Ev.now _)
    rw [decide_eq_false e1]
    refine Ev.neg (fun h => e1 ((list_eq _ _).1 h)) (Ev.put (has_val _ _ (by omega)) ?_)
    rw [searchB_eq hp.2.2.2.2.2.1]
    by_cases e2 : u ∈ r.ws
    · rw [decide_eq_true e2]
      exact Ev.pos rfl (Ev.now _)
    rw [decide_eq_false e2]
    refine Ev.neg (by simp) ?_
    cases w with
    | true => exact Ev.pos rfl (Ev.now _)
    | false =>
      refine Ev.neg (by simp) (Ev.put (has_val _ _ (by omega)) ?_)
      rw [searchB_eq hp.2.2.2.2.1]
      simpa using Ev.now _

end Go.Proofs.YtfhanoloaejmkaaDoor.Ref
