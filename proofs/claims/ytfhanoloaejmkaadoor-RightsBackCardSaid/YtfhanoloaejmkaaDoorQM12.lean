/- Contracts and laws that the statement of LawRightsUndo,LawRightsBack,LawRightsErrs leans on (packed from this claim's own texts): part 12. -/
import Derived.Test.YtfhanoloaejmkaaDoorQM11
section

namespace Go.Proofs.YtfhanoloaejmkaaDoor.Ref
open Go.RowKit Go.Proofs.YtfhanoloaejmkaaDoor Go.Proofs.YtfhanoloaejmkaaDoor.PA Go.Proofs.YtfhanoloaejmkaaDoorW.PrintWords Go.Proofs.YtfhanoloaejmkaaDoorW.PrintLast
set_option linter.unusedVariables false
theorem refHas_loop (l : List ByteArray) (s : ByteArray) (hl : l.length ≤ 1000000) (m i : Nat) (hm : i + m = l.length) : Ev (fun k => letterlockref7_Has.l0 k l s (i : Int)) (decide (s ∈ l.drop i)) := by
  induction m generalizing i with
  | zero =>
    rw [List.drop_eq_nil_of_le (by omega), decide_eq_false (by simp)]
    exact Ev.step (fun _ => rfl) (Ev.neg (by omega) (Ev.now _))
  | succ m ih =>
    have hi : i < l.length := by omega
    refine Ev.step (fun _ => rfl) (Ev.pos (by omega) (Ev.pos (by omega) ?_))
    rw [rdOf_nth, nth_get hi, w64 (n := (i : Int) + 1) (by omega) (by omega)]
    by_cases h : l[i] = s
    · rw [decide_eq_true (by rw [List.drop_eq_getElem_cons hi, h]; exact List.mem_cons_self)]
      exact Ev.pos ((list_eq _ _).2 h) (Ev.now _)
    · refine Ev.neg (fun e => h ((list_eq _ _).1 e)) (ev_cast (ih (i + 1) (by omega)) ?_)
      refine decide_eq_decide.2 ?_
      rw [List.drop_eq_getElem_cons hi, List.mem_cons]
      exact ⟨Or.inr, fun e => e.resolve_left fun e => h e.symm⟩
theorem refHas_ev (l : List ByteArray) (s : ByteArray) (hl : l.length ≤ 1000000) : Ev (fun k => letterlockref7_Has.f k l s) (decide (s ∈ l)) := refHas_loop l s hl l.length 0 (by omega)
theorem refWithout_loop (l : List ByteArray) (s : ByteArray) (hl : l.length ≤ 1000000) (m i : Nat) (hm : i + m = l.length) (acc : List ByteArray) (ha : acc.length ≤ i) :
    Ev (fun k => letterlockref7_without.l0 k l s acc (i : Int)) (acc ++ dropL (l.drop i) s) := by
  induction m generalizing i acc with
  | zero =>
    rw [List.drop_eq_nil_of_le (by omega)]
    refine Ev.step (fun _ => rfl) (Ev.neg (by omega) (ev_cast (Ev.now _) ?_))
    simp [dropL]
  | succ m ih =>
    have hi : i < l.length := by omega
    refine Ev.step (fun _ => rfl) (Ev.pos (by omega) (Ev.pos (by omega) ?_))
    rw [rdOf_nth, nth_get hi, w64 (n := (i : Int) + 1) (by omega) (by omega), List.drop_eq_getElem_cons hi]
    by_cases h : l[i] = s
    · refine Ev.pos ((list_eq _ _).2 h) (ev_cast (ih (i + 1) (by omega) acc (by omega)) ?_)
      unfold dropL
      rw [List.filter_cons, if_neg (by simp [h])]
    · refine Ev.neg (fun e => h ((list_eq _ _).1 e)) (Ev.pos (by omega) (ev_cast (ih (i + 1) (by omega) (acc ++ [l[i]]) (by simp; omega)) ?_))
      unfold dropL
      rw [List.filter_cons, if_pos (by simp [h]), List.append_assoc]
      rfl
theorem refWithout_ev (l : List ByteArray) (s : ByteArray) (hl : l.length ≤ 1000000) : Ev (fun k => letterlockref7_without.f k l s) (dropL l s) := by
  have := refWithout_loop l s hl l.length 0 (by omega) [] (Nat.zero_le _)
  rw [List.drop_zero, List.nil_append] at this
  exact this
def insG (s : ByteArray) : List ByteArray → List ByteArray
  | [] => [s]
  | a :: l => if ltB s a = true then s :: a :: l else a :: insG s l
theorem insG_eq {l : List ByteArray} {s : ByteArray} (hr : risesL l = true) (hs : s ∉ l) : insG s l = insL l s := by
  induction l with
  | nil => rfl
  | cons a l ih =>
    have hc := rises_cons.1 hr
    have hne : a ≠ s := fun e => hs (e ▸ List.mem_cons_self)
    unfold insL below above
    rw [insG, List.takeWhile_cons, List.dropWhile_cons]
    by_cases h : ltB s a = true
    · rw [if_pos h, if_neg (by rw [ltB_asymm h]; simp), if_neg (by rw [ltB_asymm h]; simp)]
      rfl
    · have h2 : ltB a s = true := ltB_tri (by simpa using h) hne.symm
      rw [if_neg h, if_pos h2, if_pos h2, ih hc.2 (fun e => hs (List.mem_cons_of_mem _ e))]
      rfl
theorem refLessB (a b : ByteArray) (ha : a.size ≤ 1000000) (hb : b.size ≤ 1000000) : Ev (fun k => letterlockref1_Less.f k a b) (ltB a b) := refLess_ev a b ha hb
theorem refWith_true (l : List ByteArray) (s : ByteArray) (hl : l.length ≤ 1000000) (m i : Nat) (hm : i + m = l.length) (acc : List ByteArray) (ha : acc.length ≤ i + 1) :
    Ev (fun k => letterlockref7_with.l0 k l s acc true (i : Int)) (acc ++ l.drop i) := by
  induction m generalizing i acc with
  | zero =>
    rw [List.drop_eq_nil_of_le (by omega), List.append_nil]
    exact Ev.step (fun _ => rfl) (Ev.neg (by omega) (Ev.pos rfl (Ev.now _)))
  | succ m ih =>
    have hi : i < l.length := by omega
    refine Ev.step (fun _ => rfl) (Ev.pos (by omega) (Ev.pos rfl (Ev.pos (by omega) (Ev.pos (by omega) ?_))))
    rw [rdOf_nth, nth_get hi, w64 (n := (i : Int) + 1) (by omega) (by omega), List.drop_eq_getElem_cons hi]
    refine ev_cast (ih (i + 1) (by omega) (acc ++ [l[i]]) (by simp; omega)) ?_
    rw [List.append_assoc]; rfl
theorem refWith_false (l : List ByteArray) (s : ByteArray) (hl : l.length ≤ 1000000) (hs : s.size ≤ 1000000) (hz : ∀ x ∈ l, x.size ≤ 1000000) (m i : Nat) (hm : i + m = l.length) (acc : List ByteArray) (ha : acc.length ≤ i) :
    Ev (fun k => letterlockref7_with.l0 k l s acc false (i : Int)) (acc ++ insG s (l.drop i)) := by
  induction m generalizing i acc with
  | zero =>
    rw [List.drop_eq_nil_of_le (by omega)]
    exact Ev.step (fun _ => rfl) (Ev.neg (by omega) (Ev.neg (by simp) (Ev.pos (by omega) (Ev.now _))))
  | succ m ih =>
    have hi : i < l.length := by omega
    have hzi := hz l[i] (List.getElem_mem hi)
    refine Ev.step (fun _ => rfl) (Ev.pos (by omega) (Ev.neg (by simp) (Ev.pos (by omega) ?_)))
    rw [rdOf_nth, nth_get hi, w64 (n := (i : Int) + 1) (by omega) (by omega), List.drop_eq_getElem_cons hi, insG]
    refine Ev.bind (refLessB s l[i] hs hzi) ?_
    cases h : ltB s l[i] with
    | true =>
      rw [if_pos rfl]
      refine Ev.pos rfl (Ev.pos (by omega) (Ev.put rfl (Ev.pos (by simp; omega) ?_)))
      refine ev_cast (refWith_true l s hl m (i + 1) (by omega) (acc ++ [s] ++ [l[i]]) (by simp; omega)) ?_
      simp
    | false =>
      rw [if_neg (by simp)]
      refine Ev.neg (by simp) (Ev.pos (by omega) ?_)
      refine ev_cast (ih (i + 1) (by omega) (acc ++ [l[i]]) (by simp; omega)) ?_
      rw [List.append_assoc]; rfl
theorem refWith_ev (l : List ByteArray) (s : ByteArray) (hl : l.length ≤ 1000000) (hs : s.size ≤ 1000000) (hz : ∀ x ∈ l, x.size ≤ 1000000) (hr : risesL l = true) (hn : s ∉ l) : Ev (fun k => letterlockref7_with.f k l s) (insL l s) := by
  have := refWith_false l s hl hs hz l.length 0 (by omega) [] (Nat.zero_le _)
  rw [List.drop_zero, insG_eq hr hn, List.nil_append] at this
  exact this
end Go.Proofs.YtfhanoloaejmkaaDoor.Ref
end
