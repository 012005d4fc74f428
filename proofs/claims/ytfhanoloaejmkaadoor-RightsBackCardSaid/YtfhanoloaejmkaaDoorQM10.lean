/- Contracts and laws that the statement of LawRightsUndo,LawRightsBack,LawRightsErrs leans on (packed from this claim's own texts): part 10. -/
import Derived.LoopTactic
import Derived.RegionTactic
import Derived.Deep.RegionHeld3
import Derived.Deep.RegionWith
import Derived.Outline
import Derived.Deep.Grids
import Derived.ChangeArms
import Derived.ChangeSame
import Derived.Test.YtfhanoloaejmkaaDoorQM3
import Derived.Test.YtfhanoloaejmkaaDoorQM6
import Derived.Test.YtfhanoloaejmkaaDoorQM7
import Derived.Test.YtfhanoloaejmkaaDoorQM9
section

namespace Go.Proofs.YtfhanoloaejmkaaDoor.Ref
open Go.RowKit Go.Proofs.YtfhanoloaejmkaaDoor Go.Proofs.YtfhanoloaejmkaaDoor.PB Go.Proofs.YtfhanoloaejmkaaDoorW.PrintWords Go.Proofs.YtfhanoloaejmkaaDoorW.PrintLast
set_option linter.unusedVariables false
theorem list_eq (a b : ByteArray) : a.toList = b.toList ↔ a = b := ⟨fun h => bs_inj (by rwa [bytes_toList, bytes_toList] at h), fun h => by rw [h]⟩
theorem rdOf_nth (l : List ByteArray) (i : Nat) : rdOf ByteArray.empty l (i : Int) = nth l i := by
  unfold rdOf nth; rw [Int.toNat_natCast]
theorem has_val (l : List ByteArray) (x : ByteArray) (h : l.length ≤ 140737488355328) : rights_has_string.f l x = some (searchB l x) := by
  unfold rights_has_string.f rights_place.f
  rw [if_pos h]; rfl
theorem right_val (a : ByteArray) (h : a.size ≤ 9223372036854775807) : name_Right.f a = some (rightN (bytes a)) := by unfold name_Right.f; rw [if_pos h]
theorem rises_loop (l : List ByteArray) (hl : l.length ≤ 1000000) (m i : Nat) (hm : i + m = l.length) (h : ∀ j, j + 1 < i → (h : j + 1 < l.length) → ltB (l[j]'(by omega)) l[j + 1] = true) :
    Ev (fun k => rights_rises_string.l0 k l (l.length : Int) (i : Int)) (risesL l) := by
  induction m generalizing i with
  | zero =>
    refine Ev.step (fun _ => rfl) (Ev.neg (by omega) ?_)
    have : risesL l = true := rises_get.2 fun j hj => h j (by omega) hj
    rw [this]; exact Ev.now _
  | succ m ih =>
    refine Ev.step (fun _ => rfl) (Ev.pos (by omega) ?_)
    by_cases h0 : i = 0
    · subst h0
      refine Ev.neg (by omega) ?_
      rw [show wrap64 (((0 : Nat) : Int) + 1) = ((1 : Nat) : Int) by rw [w64 (by omega) (by omega)]; rfl]
      exact ih 1 (by omega) (fun j hj => by omega)
    · obtain ⟨j, rfl⟩ : ∃ j, i = j + 1 := ⟨i - 1, by omega⟩
      have e1 : wrap64 (((j + 1 : Nat) : Int) - 1) = (j : Int) := by rw [w64 (by omega) (by omega)]; omega
      have e2 : wrap64 (((j + 1 : Nat) : Int) + 1) = ((j + 2 : Nat) : Int) := by rw [w64 (by omega) (by omega)]; omega
      rw [e1, e2, rdOf_nth, rdOf_nth, lessB]
      refine Ev.pos (by omega) (Ev.pos (by omega) (Ev.pos (by omega) (Ev.pos (by omega) (Ev.pos (by omega) ?_))))
      have e3 : ltB (nth l j) (nth l (j + 1)) = ltB (l[j]'(by omega)) (l[j + 1]'(by omega)) := by rw [nth_get (by omega), nth_get (by omega)]
      by_cases hlt : ltB (nth l j) (nth l (j + 1)) = true
      · refine Ev.pos hlt (ih (j + 2) (by omega) (fun q hq hq2 => ?_))
        by_cases hqj : q = j
        · subst hqj; rw [← e3]; exact hlt
        · exact h q (by omega) hq2
      · refine Ev.neg hlt ?_
        have : risesL l = false := by
          cases hr : risesL l with
          | false => rfl
          | true => exact absurd (e3 ▸ rises_get.1 hr j (by omega)) hlt
        rw [this]; exact Ev.now _
theorem rises_ev (l : List ByteArray) (hl : l.length ≤ 1000000) : Ev (fun k => rights_rises_string.f k l) (risesL l) := rises_loop l hl l.length 0 (by omega) (fun j hj => by omega)
def smallS (s : ByteArray) : Bool := decide (s.size ≤ 1000000)
def smallR (r : Rt) : Bool := smallS r.o && smallS r.f && decide (-9223372036854775808 ≤ r.e ∧ r.e ≤ 9223372036854775807) && decide (r.rs.length ≤ 1000) && decide (r.ws.length ≤ 1000) && r.rs.all smallS && r.ws.all smallS
theorem small_parts {r : Rt} (h : smallR r = true) : r.o.size ≤ 1000000 ∧ r.f.size ≤ 1000000 ∧ (-9223372036854775808 ≤ r.e ∧ r.e ≤ 9223372036854775807) ∧ r.rs.length ≤ 1000 ∧ r.ws.length ≤ 1000 ∧ (∀ s ∈ r.rs, s.size ≤ 1000000) ∧ ∀ s ∈ r.ws, s.size ≤ 1000000 := by
  unfold smallR smallS at h
  simp only [Bool.and_eq_true, List.all_eq_true, decide_eq_true_eq] at h
  obtain ⟨⟨⟨⟨⟨⟨h1, h2⟩, h3⟩, h4⟩, h5⟩, h6⟩, h7⟩ := h
  exact ⟨h1, h2, h3, h4, h5, h6, h7⟩
theorem small_mk {r : Rt} (h1 : r.o.size ≤ 1000000) (h2 : r.f.size ≤ 1000000) (h3 : -9223372036854775808 ≤ r.e ∧ r.e ≤ 9223372036854775807) (h4 : r.rs.length ≤ 1000) (h5 : r.ws.length ≤ 1000) (h6 : ∀ s ∈ r.rs, s.size ≤ 1000000) (h7 : ∀ s ∈ r.ws, s.size ≤ 1000000) : smallR r = true := by
  unfold smallR smallS
  simp only [Bool.and_eq_true, List.all_eq_true, decide_eq_true_eq]
  exact ⟨⟨⟨⟨⟨⟨h1, h2⟩, h3⟩, h4⟩, h5⟩, h6⟩, h7⟩
theorem right_loop (l : List ByteArray) (o f : ByteArray) (e : Int) (rs ws : List ByteArray) (hl : l.length ≤ 1000000) (hs : ∀ s ∈ l, s.size ≤ 1000000) (hr : rs.length ≤ 1000) (hw : ws.length ≤ 1000) (m i : Nat) (hm : i + m = l.length) :
    Ev (fun k => rights_Right.l0 k l (l.length : Int) (i : Int) o f e rs ws) ((l.drop i).all fun s => rightN (bytes s) && !decide (s = o) && !(searchB rs s && searchB ws s)) := by
  induction m generalizing i with
  | zero =>
    rw [List.drop_eq_nil_of_le (by omega)]
    exact Ev.step (fun _ => rfl) (Ev.neg (by omega) (Ev.now _))
  | succ m ih =>
    have hi : i < l.length := by omega
    have ih := ih (i + 1) (by omega)
    have hsz := hs l[i] (List.getElem_mem hi)
    rw [List.drop_eq_getElem_cons hi, List.all_cons]
    refine Ev.step (fun _ => rfl) (Ev.pos (by omega) (Ev.pos (by omega) (Ev.pos (by omega) ?_)))
    rw [rdOf_nth, nth_get hi, w64 (n := (i : Int) + 1) (by omega) (by omega)]
    refine Ev.put (right_val _ (by omega)) ?_
    cases h1 : rightN (bytes l[i]) with
    | false => exact Ev.neg (by simp) (Ev.now _)
    | true =>
      refine Ev.pos rfl ?_
      by_cases h2 : l[i] = o
      · rw [decide_eq_true h2]
        exact Ev.pos ((list_eq _ _).2 h2) (Ev.now _)
      · rw [decide_eq_false h2]
        refine Ev.neg (fun h => h2 ((list_eq _ _).1 h)) ?_
        refine Ev.put (has_val _ _ (by omega)) ?_
        cases h3 : searchB rs l[i] with
        | false =>
          refine Ev.neg (by simp) ?_
          simpa using ih
        | true =>
          refine Ev.pos rfl ?_
          refine Ev.put (has_val _ _ (by omega)) ?_
          cases h4 : searchB ws l[i] with
          | true => exact Ev.pos rfl (Ev.now _)
          | false =>
            refine Ev.neg (by simp) ?_
            simpa using ih
theorem right_ev (r : Rt) (h : smallR r = true) : Ev (fun k => rights_Right.f k r.o r.f r.e r.rs r.ws) (rightR r) := by
  obtain ⟨h1, h2, h3, h4, h5, h6, h7⟩ := small_parts h
  have hno : ∀ b : Bool, (∀ k, rights_Right.j0 (k + 1) b r.o r.f r.e r.rs r.ws = if b = true then some false else (slices_Concat.f [r.rs, r.ws]).bind fun t => rights_Right.l0 k t (t.length : Int) 0 r.o r.f r.e r.rs r.ws) := fun b k => rfl
  have hbad : Ev (fun k => rights_Right.j0 k true r.o r.f r.e r.rs r.ws) false := Ev.step (hno true) (Ev.pos rfl (Ev.now _))
  rw [← right_walk]
  unfold rights_Right.f
  refine Ev.put (right_val _ (by omega)) ?_
  cases rightN (bytes r.o) with
  | false => exact Ev.neg (by simp) (ev_cast hbad (by simp))
  | true =>
  refine Ev.pos rfl (Ev.put (right_val _ (by omega)) ?_)
  cases rightN (bytes r.f) with
  | false => exact Ev.neg (by simp) (ev_cast hbad (by simp))
  | true =>
  refine Ev.pos rfl ?_
  by_cases c1 : r.e < 0
  · refine Ev.pos c1 (ev_cast hbad ?_)
    rw [decide_eq_false (by omega)]; simp
  refine Ev.neg c1 ?_
  by_cases c2 : r.e ≥ 8
  · refine Ev.pos c2 (ev_cast hbad ?_)
    rw [decide_eq_false (by omega)]; simp
  refine Ev.neg c2 ?_
  rw [decide_eq_true (show 0 ≤ r.e ∧ r.e ≤ 7 by omega), w64 (n := (r.rs.length : Int) + r.ws.length) (by omega) (by omega)]
  by_cases c3 : (r.rs.length : Int) + r.ws.length > 5
  · refine Ev.pos c3 (ev_cast hbad ?_)
    rw [decide_eq_false (by omega)]; simp
  refine Ev.neg c3 ?_
  rw [decide_eq_true (show r.rs.length + r.ws.length ≤ 5 by omega)]
  refine Ev.bind (rises_ev r.rs (by omega)) ?_
  cases risesL r.rs with
  | false => exact Ev.neg (by simp) (ev_cast hbad (by simp))
  | true =>
  refine Ev.pos rfl (Ev.bind (rises_ev r.ws (by omega)) ?_)
  cases risesL r.ws with
  | false => exact ev_cast hbad (by simp)
  | true =>
  refine Ev.step (hno _) (Ev.neg (by simp) ?_)
  have hc : slices_Concat.f [r.rs, r.ws] = some (r.rs ++ r.ws) := by
    unfold slices_Concat.f
    rw [if_pos (by simp; omega)]
    simp
  refine Ev.put hc ?_
  have hlen : (r.rs ++ r.ws).length ≤ 1000000 := by rw [List.length_append]; omega
  refine ev_cast (right_loop (r.rs ++ r.ws) r.o r.f r.e r.rs r.ws hlen (fun s hs => (List.mem_append.1 hs).elim (h6 s) (h7 s)) h4 h5 (r.rs ++ r.ws).length 0 (by omega)) ?_
  simp only [List.drop_zero, Bool.true_and]
def askedF (r : Rt) (u : ByteArray) : Int := if rightR r = true then (if rightN (bytes u) = true then 0 else 3) else 1
theorem asked_ev (r : Rt) (u : ByteArray) (h : smallR r = true) (hu : u.size ≤ 1000000) : Ev (fun k => rights_asked.f k r.o r.f r.e r.rs r.ws u) (askedF r u) := by
  unfold rights_asked.f askedF
  refine Ev.bind (right_ev r h) ?_
  cases rightR r with
  | false => exact Ev.neg (by simp) (Ev.now _)
  | true =>
    refine Ev.pos rfl (Ev.put (right_val _ (by omega)) ?_)
    cases rightN (bytes u) with
    | false => exact Ev.neg (by simp) (Ev.now _)
    | true => exact Ev.pos rfl (Ev.now _)
theorem can_ev (r : Rt) (u : ByteArray) (w : Bool) (h : smallR r = true) : Ev (fun k => rights_Can.f k r.o r.f r.e r.rs r.ws u w) (canF r u w) := by
  obtain ⟨h1, h2, h3, h4, h5, h6, h7⟩ := small_parts h
  unfold rights_Can.f canF
  refine Ev.bind (right_ev r h) ?_
  cases hr : rightR r with
  | false => exact Ev.neg (by simp) (Ev.now _)
  | true =>
    have hp := right_parts hr
    refine Ev.pos rfl ?_
    by_cases e1 : u = r.o
    · rw [decide_eq_true e1]
      exact Ev.pos ((list_eq _ _).2 e1) (Ev.now _)
    rw [decide_eq_false e1]
    refine Ev.neg (fun h => e1 ((list_eq _ _).1 h)) (Ev.put (has_val _ _ (by omega)) ?_)
    rw [searchB_eq hp.2.2.2.2.2.1]
    by_cases e2 : u ∈ r.ws
    · rw [decide_eq_true e2]
      exact Ev.pos rfl (Ev.now _)
    rw [decide_eq_false e2]
    refine Ev.neg (by simp) ?_
    cases w with
    | true => exact Ev.pos rfl (Ev.now _)
    | false =>
      refine Ev.neg (by simp) (Ev.put (has_val _ _ (by omega)) ?_)
      rw [searchB_eq hp.2.2.2.2.1]
      simpa using Ev.now _
end Go.Proofs.YtfhanoloaejmkaaDoor.Ref
end
section

namespace Go.Proofs.YtfhanoloaejmkaaDoor
open Go.RowKit Go.Proofs.YtfhanoloaejmkaaDoorW.PrintWords Go.Proofs.YtfhanoloaejmkaaDoor.Ref
set_option linter.unusedVariables false
set_option linter.unusedSimpArgs false
theorem asked_call (r : Rt) (u : ByteArray) (A : Option Addr) (c : Nat) (A' : Option Addr) (c' : Nat) (w : World) (HTB : Aside0 (Tabs w)) (hs : smallR r = true) (hu : u.size ≤ 1000000) (h1 : Kd.C Kd.string w A r.rs.length r.rs) (h2 : r.rs.length ≤ c) (h3 : Kd.C Kd.string w A' r.ws.length r.ws) (h4 : r.ws.length ≤ c') :
    Calls Tryd.prog 31 #[.agg #[.string r.o, .string r.f, .int .i64 r.e, .slice A r.rs.length c, .slice A' r.ws.length c'], .string u] w fun e w' => e = .returned (.int .i64 (askedF r u)) ∧ Below w.heap.size w w' := by
  obtain ⟨K, h⟩ := asked_ev r u hs hu
  exact PB.rights_asked.calls K r.o r.f r.e A c r.rs A' c' r.ws u _ w HTB h1 h2 h3 h4 (h K (Nat.le_refl _))
theorem other_call (r : Rt) (u : ByteArray) (A : Option Addr) (c : Nat) (A' : Option Addr) (c' : Nat) (w : World) (hs : smallR r = true) (h1 : Kd.C Kd.string w A r.rs.length r.rs) (h2 : r.rs.length ≤ c) (h3 : Kd.C Kd.string w A' r.ws.length r.ws) (h4 : r.ws.length ≤ c') :
    Calls Tryd.prog 32 #[.agg #[.string r.o, .string r.f, .int .i64 r.e, .slice A r.rs.length c, .slice A' r.ws.length c'], .string u] w fun e w' => e = .returned (.bool (searchB r.rs u || searchB r.ws u)) ∧ Below w.heap.size w w' := by
  obtain ⟨_, _, _, q1, q2, _⟩ := small_parts hs
  refine PB.rights_other.calls r.o r.f r.e A c r.rs A' c' r.ws u _ w h1 h2 h3 h4 ?_
  unfold PB.rights_other.f
  rw [has_val _ _ (by omega), has_val _ _ (by omega)]
  cases searchB r.rs u <;> simp
def BoxAt (w : World) (b : Nat) (r : Rt) (v3 v4 : Value) : Prop := ∃ cs : Array Value, cs = #[.string r.o, .string r.f, .int .i64 r.e, v3, v4] ∧ w.heap[b]? = some (.cells cs 26 (0, 0))
theorem BoxAt.cell {w : World} {b : Nat} {r : Rt} {v3 v4 : Value} (h : BoxAt w b r v3 v4) : w.cell? ⟨b, 0, none⟩ = some (.string r.o) ∧ w.cell? ⟨b, 1, none⟩ = some (.string r.f) ∧ w.cell? ⟨b, 2, none⟩ = some (.int .i64 r.e) ∧ w.cell? ⟨b, 3, none⟩ = some v3 ∧ w.cell? ⟨b, 4, none⟩ = some v4 := by
  obtain ⟨cs, rfl, h⟩ := h
  exact ⟨blk_cell h 0, blk_cell h 1, blk_cell h 2, blk_cell h 3, blk_cell h 4⟩
theorem BoxAt.free {w : World} {b : Nat} {r : Rt} {v3 v4 : Value} (h : BoxAt w b r v3 v4) (i : Nat) : w.frozen? ⟨b, i, none⟩ = false := by
  obtain ⟨cs, rfl, h⟩ := h
  exact blk_frozen h i
theorem BoxAt.below {w w1 : World} {b : Nat} {r : Rt} {v3 v4 : Value} (h : BoxAt w b r v3 v4) (hb : Below w.heap.size w w1) : BoxAt w1 b r v3 v4 := by
  obtain ⟨cs, rfl, h⟩ := h
  exact ⟨_, rfl, by rw [hb.block b (blk_lt h)]; exact h⟩
theorem BoxAt.put {w : World} {b : Nat} {r : Rt} {v3 v4 : Value} (h : BoxAt w b r v3 v4) (r' : Rt) (v3' v4' : Value) :
    BoxAt (((((w.setCell ⟨b, 0, none⟩ (.string r'.o)).setCell ⟨b, 1, none⟩ (.string r'.f)).setCell ⟨b, 2, none⟩ (.int .i64 r'.e)).setCell ⟨b, 3, none⟩ v3').setCell ⟨b, 4, none⟩ v4') b r' v3' v4' := by
  obtain ⟨cs, rfl, h⟩ := h
  exact ⟨_, rfl, blk_set (blk_set (blk_set (blk_set (blk_set h 0 _) 1 _) 2 _) 3 _) 4 _⟩
theorem BoxAt.put_below {B : Nat} {w0 w : World} {b : Nat} (hb : Below B w0 w) (hB : B ≤ b) (r' : Rt) (v3' v4' : Value) :
    Below B w0 (((((w.setCell ⟨b, 0, none⟩ (.string r'.o)).setCell ⟨b, 1, none⟩ (.string r'.f)).setCell ⟨b, 2, none⟩ (.int .i64 r'.e)).setCell ⟨b, 3, none⟩ v3').setCell ⟨b, 4, none⟩ v4') :=
  ((((hb.setCell hB _).setCell hB _).setCell hB _).setCell hB _).setCell hB _
structure St (w0 W : World) (r : Rt) (v3 v4 : Value) (l3 l4 : List ByteArray) : Prop where
  bel : Below w0.heap.size w0 W
  box : BoxAt W w0.heap.size r v3 v4
  res : BoxAt W (w0.heap.size + 1) noRt (.slice none 0 0) (.slice none 0 0)
  own3 : W.ownsRow (w0.heap.size + 2) 9 1 v3 l3.length (strs l3)
  own4 : W.ownsRow (w0.heap.size + 2) 9 1 v4 l4.length (strs l4)
  apart : ∀ k, v3.ownBlock = some k → v4.ownBlock ≠ some k
theorem St.below {w0 W W' : World} {r : Rt} {v3 v4 : Value} {l3 l4 : List ByteArray} (h : St w0 W r v3 v4 l3 l4) (hb : Below W.heap.size W W') : St w0 W' r v3 v4 l3 l4 :=
  ⟨below_step h.bel hb, h.box.below hb, h.res.below hb, pw_own_below h.own3 hb, pw_own_below h.own4 hb, h.apart⟩
theorem BoxAt.grown {w w1 : World} {b : Nat} {r : Rt} {v3 v4 : Value} {row : Option Nat} (h : BoxAt w b r v3 v4) (hg : w.grownBy w1 row) (hne : some b ≠ row) : BoxAt w1 b r v3 v4 := by
  obtain ⟨cs, rfl, h⟩ := h
  exact ⟨_, rfl, blk_grown h hg hne⟩
theorem BoxAt.far {w : World} {b : Nat} {r : Rt} {v3 v4 : Value} (h : BoxAt w b r v3 v4) {p : Addr} (hp : b ≠ p.block) (u : Value) : BoxAt (w.setCell p u) b r v3 v4 := by
  obtain ⟨cs, rfl, h⟩ := h
  exact ⟨_, rfl, blk_far h hp u⟩
theorem BoxAt.set3 {w : World} {b : Nat} {r : Rt} {v3 v4 : Value} (h : BoxAt w b r v3 v4) (u : Value) : BoxAt (w.setCell ⟨b, 3, none⟩ u) b r u v4 := by
  obtain ⟨cs, rfl, h⟩ := h
  exact ⟨_, rfl, blk_set h 3 u⟩
theorem BoxAt.set4 {w : World} {b : Nat} {r : Rt} {v3 v4 : Value} (h : BoxAt w b r v3 v4) (u : Value) : BoxAt (w.setCell ⟨b, 4, none⟩ u) b r v3 u := by
  obtain ⟨cs, rfl, h⟩ := h
  exact ⟨_, rfl, blk_set h 4 u⟩
theorem own_not {W : World} {B : Nat} {v : Value} {l : List ByteArray} (h : W.ownsRow B 9 1 v l.length (strs l)) {b : Nat} (hb : b < B) : some b ≠ v.ownBlock := fun e => by
  have := own_base h b e.symm
  omega
theorem St.set3 {w0 W W' : World} {r : Rt} {v3 v4 v3' : Value} {l3 l4 l3' : List ByteArray} (h : St w0 W r v3 v4 l3 l4) (hg : W.grownBy W' v3.ownBlock) (ho : W'.ownsRow (w0.heap.size + 2) 9 1 v3' l3'.length (strs l3')) (hat : v3'.ownBlock = v3.ownBlock ∨ ∃ b, v3'.ownBlock = some b ∧ W.heap.size ≤ b) :
    St w0 (W'.setCell ⟨w0.heap.size, 3, none⟩ v3') r v3' v4 l3' l4 := by
  have n4 : v4.ownBlock ≠ v3.ownBlock ∨ v4.ownBlock = none := by
    cases e : v4.ownBlock with
    | none => exact Or.inr rfl
    | some k => exact Or.inl fun e2 => h.apart k e2.symm e
  have o4 : W'.ownsRow (w0.heap.size + 2) 9 1 v4 l4.length (strs l4) := by
    rcases n4 with n4 | n4
    · exact own_other h.own4 hg (Or.inr n4)
    · rcases own_row h.own4 with ⟨rfl, rfl⟩ | ⟨g, cap, cur, rfl, _⟩
      · exact own_nil _ _ _ _
      · simp [Value.ownBlock] at n4
  refine ⟨(h.bel.grown hg (by have := h.bel.size; omega) (fun k hk => by have := own_base h.own3 k hk; omega)).setCell (Nat.le_refl _) _, (h.box.grown hg (own_not h.own3 (by omega))).set3 _, (h.res.grown hg (own_not h.own3 (by omega))).far (by show _ ≠ w0.heap.size; omega) _, own_setCell ho (own_not ho (by show w0.heap.size < _; omega)) _, own_setCell o4 (own_not o4 (by show w0.heap.size < _; omega)) _, fun k hk => ?_⟩
  rcases hat with hat | ⟨b, hat, hle⟩
  · exact h.apart k (hat ▸ hk)
  · intro e
    have h1 := own_lt h.own4 k e
    rw [hk] at hat
    cases hat
    omega
theorem St.set4 {w0 W W' : World} {r : Rt} {v3 v4 v4' : Value} {l3 l4 l4' : List ByteArray} (h : St w0 W r v3 v4 l3 l4) (hg : W.grownBy W' v4.ownBlock) (ho : W'.ownsRow (w0.heap.size + 2) 9 1 v4' l4'.length (strs l4')) (hat : v4'.ownBlock = v4.ownBlock ∨ ∃ b, v4'.ownBlock = some b ∧ W.heap.size ≤ b) :
    St w0 (W'.setCell ⟨w0.heap.size, 4, none⟩ v4') r v3 v4' l3 l4' := by
  have n3 : v3.ownBlock ≠ v4.ownBlock ∨ v3.ownBlock = none := by
    cases e : v3.ownBlock with
    | none => exact Or.inr rfl
    | some k => exact Or.inl fun e2 => h.apart k e e2.symm
  have o3 : W'.ownsRow (w0.heap.size + 2) 9 1 v3 l3.length (strs l3) := by
    rcases n3 with n3 | n3
    · exact own_other h.own3 hg (Or.inr n3)
    · rcases own_row h.own3 with ⟨rfl, rfl⟩ | ⟨g, cap, cur, rfl, _⟩
      · exact own_nil _ _ _ _
      · simp [Value.ownBlock] at n3
  refine ⟨(h.bel.grown hg (by have := h.bel.size; omega) (fun k hk => by have := own_base h.own4 k hk; omega)).setCell (Nat.le_refl _) _, (h.box.grown hg (own_not h.own4 (by omega))).set4 _, (h.res.grown hg (own_not h.own4 (by omega))).far (by show _ ≠ w0.heap.size; omega) _, own_setCell o3 (own_not o3 (by show w0.heap.size < _; omega)) _, own_setCell ho (own_not ho (by show w0.heap.size < _; omega)) _, fun k hk e => ?_⟩
  rcases hat with hat | ⟨b, hat, hle⟩
  · exact h.apart k hk (hat ▸ e)
  · have h1 := own_lt h.own3 k hk
    rw [e] at hat
    cases hat
    omega
theorem St.start {w0 W W3 W4 : World} {r : Rt} {v3 v4 u3 u4 : Value} {l3 l4 : List ByteArray} (hb : Below w0.heap.size w0 W) (hx : BoxAt W w0.heap.size r u3 u4) (hy : BoxAt W (w0.heap.size + 1) noRt (.slice none 0 0) (.slice none 0 0)) (h3 : W3.ownsRow W.heap.size 9 1 v3 l3.length (strs l3)) (b3 : Below W.heap.size W W3)
    (h4 : W4.ownsRow W3.heap.size 9 1 v4 l4.length (strs l4)) (b4 : Below W3.heap.size W3 W4) : St w0 ((W4.setCell ⟨w0.heap.size, 3, none⟩ v3).setCell ⟨w0.heap.size, 4, none⟩ v4) r v3 v4 l3 l4 := by
  have hs : w0.heap.size + 2 ≤ W.heap.size := by
    obtain ⟨cs, rfl, h⟩ := hy
    have := blk_lt h
    omega
  have hs3 := b3.size
  have o3 := pw_own_below (own_weaken h3 hs) b4
  have o4 := own_weaken h4 (show w0.heap.size + 2 ≤ W3.heap.size by omega)
  have q : w0.heap.size < w0.heap.size + 2 := by omega
  refine ⟨((below_step (below_step hb b3) b4).setCell (Nat.le_refl _) _).setCell (Nat.le_refl _) _, (((hx.below b3).below b4).set3 _).set4 _, (((hy.below b3).below b4).far (by show _ ≠ w0.heap.size; omega) _).far (by show _ ≠ w0.heap.size; omega) _, own_setCell (own_setCell o3 (own_not o3 q) _) (own_not o3 q) _, own_setCell (own_setCell o4 (own_not o4 q) _) (own_not o4 q) _, fun k hk e => ?_⟩
  have := own_lt h3 k hk
  have := own_base h4 k e
  omega
theorem own_C {W : World} {B : Nat} {v : Value} {l : List ByteArray} (h : W.ownsRow B 9 1 v l.length (strs l)) : ∃ A c, v = .slice A l.length c ∧ l.length ≤ c ∧ Kd.C Kd.string W A l.length l :=
  Kd.R_reads (ok := fun _ => True) (Kd.R_of_own h (fun _ _ => trivial))
theorem St.rows {w0 W : World} {r : Rt} {v3 v4 : Value} {l3 l4 : List ByteArray} (h : St w0 W r v3 v4 l3 l4) :
    Kd.R Kd.string 9 W w0.heap.size (fun k_ => some k_ ≠ (v4 : Value).ownBlock) v3 l3 ∧ Kd.R Kd.string 9 W w0.heap.size (fun k_ => some k_ ≠ (v3 : Value).ownBlock) v4 l4 :=
  ⟨Kd.R_of_own (own_weaken h.own3 (by omega)) (fun k hk e => h.apart k hk e.symm), Kd.R_of_own (own_weaken h.own4 (by omega)) (fun k hk e => h.apart k e.symm hk)⟩
theorem own_set {W : World} {B b i : Nat} {v : Value} {l : List ByteArray} (h : W.ownsRow B 9 1 v l.length (strs l)) (hb : b < B) (u : Value) : (W.setCell ⟨b, i, none⟩ u).ownsRow B 9 1 v l.length (strs l) := own_setCell h (own_not h hb) u
theorem St.fin {w0 W : World} {r : Rt} {v3 v4 : Value} {l3 l4 : List ByteArray} (h : St w0 W r v3 v4 l3 l4) (a b c d e : Value) :
    Kd.R Kd.string 9 (((((W.setCell ⟨w0.heap.size + 1, 0, none⟩ a).setCell ⟨w0.heap.size + 1, 1, none⟩ b).setCell ⟨w0.heap.size + 1, 2, none⟩ c).setCell ⟨w0.heap.size + 1, 3, none⟩ d).setCell ⟨w0.heap.size + 1, 4, none⟩ e) w0.heap.size (fun k_ => some k_ ≠ (v4 : Value).ownBlock) v3 l3 ∧
      Kd.R Kd.string 9 (((((W.setCell ⟨w0.heap.size + 1, 0, none⟩ a).setCell ⟨w0.heap.size + 1, 1, none⟩ b).setCell ⟨w0.heap.size + 1, 2, none⟩ c).setCell ⟨w0.heap.size + 1, 3, none⟩ d).setCell ⟨w0.heap.size + 1, 4, none⟩ e) w0.heap.size (fun k_ => some k_ ≠ (v3 : Value).ownBlock) v4 l4 := by
  have q : w0.heap.size + 1 < w0.heap.size + 2 := by omega
  have h3 := own_set (i := 4) (own_set (i := 3) (own_set (i := 2) (own_set (i := 1) (own_set (i := 0) h.own3 q a) q b) q c) q d) q e
  have h4 := own_set (i := 4) (own_set (i := 3) (own_set (i := 2) (own_set (i := 1) (own_set (i := 0) h.own4 q a) q b) q c) q d) q e
  exact ⟨Kd.R_of_own (own_weaken h3 (by omega)) (fun k hk e => h.apart k hk e.symm), Kd.R_of_own (own_weaken h4 (by omega)) (fun k hk e => h.apart k e.symm hk)⟩
theorem own_C' {W : World} {B c : Nat} {A : Option Addr} {l : List ByteArray} (h : W.ownsRow B 9 1 (.slice A l.length c) l.length (strs l)) : l.length ≤ c ∧ Kd.C Kd.string W A l.length l := by
  obtain ⟨A', c', e, h1, h2⟩ := own_C h
  simp only [Value.slice.injEq] at e
  obtain ⟨rfl, _, rfl⟩ := e
  exact ⟨h1, h2⟩
theorem place_call (l : List ByteArray) (u : ByteArray) (A : Option Addr) (c B : Nat) (W : World) (hl : l.length ≤ 1000000) (ho : W.ownsRow B 9 1 (.slice A l.length c) l.length (strs l)) :
    Calls Tryd.prog 34 #[.slice A l.length c, .string u] W fun e w' => e = .returned (.tuple #[.int .i64 (searchN l u : Nat), .bool (searchB l u)]) ∧ Below W.heap.size W w' :=
  rights_place.calls A c l u _ _ W (own_C' ho).2 (own_C' ho).1 (by unfold rights_place.f; rw [if_pos (by omega)])
set_option maxHeartbeats 4000000 in
set_option maxRecDepth 100000 in
theorem grant_any (r : Rt) (u : ByteArray) (wr : Bool) (A : Option Addr) (c : Nat) (A' : Option Addr) (c' : Nat) (w : World) (HTB : Aside0 (Tabs w)) (hs : smallR r = true) (hu : u.size ≤ 1000000) (h1 : Kd.C Kd.string w A r.rs.length r.rs) (h2 : r.rs.length ≤ c) (h3 : Kd.C Kd.string w A' r.ws.length r.ws) (h4 : r.ws.length ≤ c') :
    Calls Tryd.prog 14 #[.agg #[.string r.o, .string r.f, .int .i64 r.e, .slice A r.rs.length c, .slice A' r.ws.length c'], .string u, .bool wr] w fun e w' => ∃ v3_ v4_ : Value, e = .returned (.tuple #[.agg #[.string (grantF r u wr).1.o, .string (grantF r u wr).1.f, .int .i64 (grantF r u wr).1.e, v3_, v4_], .int .i64 (grantF r u wr).2]) ∧ Kd.R Kd.string 9 w' w.heap.size (fun k_ => some k_ ≠ (v4_ : Value).ownBlock) v3_ (grantF r u wr).1.rs ∧ Kd.R Kd.string 9 w' w.heap.size (fun k_ => some k_ ≠ (v3_ : Value).ownBlock) v4_ (grantF r u wr).1.ws ∧ Below w.heap.size w w' := by
  obtain ⟨R, hR⟩ : ∃ R, grantF r u wr = R := ⟨_, rfl⟩
  rw [hR]
  have HR := Lib.hid hR
  clear hR
  go_enter Tryd.func14, Tryd.ntmps14
  have hb0 : Below w.heap.size w ((w.alloc (Obj.cells #[Value.string r.o, Value.string r.f, Value.int IntKind.i64 r.e, Value.slice A r.rs.length c, Value.slice A' r.ws.length c'] 26)).alloc (Obj.cells #[Value.string { data := #[] }, Value.string { data := #[] }, Value.int IntKind.i64 0, Value.slice none 0 0, Value.slice none 0 0] 26)) := below_alloc (below_alloc (Below.refl _ _) _) _
  have hx0 : BoxAt ((w.alloc (Obj.cells #[Value.string r.o, Value.string r.f, Value.int IntKind.i64 r.e, Value.slice A r.rs.length c, Value.slice A' r.ws.length c'] 26)).alloc (Obj.cells #[Value.string { data := #[] }, Value.string { data := #[] }, Value.int IntKind.i64 0, Value.slice none 0 0, Value.slice none 0 0] 26)) w.heap.size r (.slice A r.rs.length c) (.slice A' r.ws.length c') :=
    ⟨_, rfl, by rw [(World.grownBy_alloc _ _ none).block _ (by rw [World.size_alloc]; omega) (by simp)]; exact heap_new _ _ _ rfl⟩
  have hy0 : BoxAt ((w.alloc (Obj.cells #[Value.string r.o, Value.string r.f, Value.int IntKind.i64 r.e, Value.slice A r.rs.length c, Value.slice A' r.ws.length c'] 26)).alloc (Obj.cells #[Value.string { data := #[] }, Value.string { data := #[] }, Value.int IntKind.i64 0, Value.slice none 0 0, Value.slice none 0 0] 26)) (w.heap.size + 1) noRt (.slice none 0 0) (.slice none 0 0) :=
    ⟨_, rfl, heap_new _ _ _ (by rw [World.size_alloc])⟩
  have HA := Lib.hid (asked_call r u A c A' c' _ ⟨HTB.out.below hb0⟩ hs hu (Kd.C_below h1 hb0) h2 (Kd.C_below h3 hb0) h4)
  have HB0 := Lib.hid hb0
  have HX0 := Lib.hid hx0
  have HY0 := Lib.hid hy0
  have HS := Lib.hid hs
  have HC1 := Lib.hid h1
  have HC3 := Lib.hid h3
  clear hb0 hx0 hy0 hs h1 h3
  go_wp2_with fail
  refine HA.out.mono ?_
  rintro e w1 ⟨rfl, hb⟩
  have HB1 := Lib.hid (below_step HB0.out hb)
  have HX1 := Lib.hid (HX0.out.below hb)
  have HY1 := Lib.hid (HY0.out.below hb)
  clear hb HB0 HX0 HY0 HA
  by_cases ha : askedF r u = 0
  · have hq : rightR r = true ∧ rightN (bytes u) = true := by
      unfold askedF at ha
      cases q1 : rightR r with
      | false => rw [q1] at ha; simp at ha
      | true =>
        cases q2 : rightN (bytes u) with
        | false => rw [q1, q2] at ha; simp at ha
        | true => exact ⟨rfl, rfl⟩
    obtain ⟨hq1, hq2⟩ := hq
    have hp := right_parts hq1
    obtain ⟨x0, x1, x2, x3, x4⟩ := HX1.out.cell
    rw [ha]
    clear ha
    by_cases e1 : u = r.o
    · have HN : Hid (R.1 = noRt ∧ R.2 = 5) := by
        rw [← HR.out]
        unfold grantF
        rw [if_neg (by rw [hq1]; simp), if_neg (by rw [hq2]; simp), if_pos (Or.inl e1)]
        exact ⟨rfl, rfl⟩
      have hE : (u.toList == r.o.toList) = true := by rw [e1]; simp
      clear e1 hp hq1 hq2
      obtain ⟨y0, y1, y2, y3, y4⟩ := HY1.out.cell
      have z0 := HY1.out.free 0
      have z1 := HY1.out.free 1
      have z2 := HY1.out.free 2
      have z3 := HY1.out.free 3
      have z4 := HY1.out.free 4
      go_wp2
      obtain ⟨cs, hcs, hblk⟩ := HY1.out.put noRt (.slice none 0 0) (.slice none 0 0)
      have hbl := BoxAt.put_below (b := w.heap.size + 1) HB1.out (by omega) noRt (.slice none 0 0) (.slice none 0 0)
      subst hcs
      refine bodyPost_ret (results_ct rfl _ _ (w.heap.size + 1) 26 _ (0, 0) _ rfl hblk Tryd.underlying26 rfl (by kernel_rfl)) rfl ?_
      obtain ⟨R, er⟩ := R
      obtain ⟨rfl, rfl⟩ := (show Hid (R = noRt ∧ er = 5) from HN).out
      exact ⟨_, _, rfl, Kd.R_nil _ _ _ _ _, Kd.R_nil _ _ _ _ _, hbl⟩
    · have hE : (u.toList == r.o.toList) = false := by rw [is_eq]; exact decide_eq_false e1
      have HO := Lib.hid (other_call r u A c A' c' w1 HS.out (Kd.C_below HC1.out HB1.out) h2 (Kd.C_below HC3.out HB1.out) h4)
      rw [searchB_eq hp.2.2.2.2.1, searchB_eq hp.2.2.2.2.2.1] at HO
      have HP := Lib.hid hp
      have HE1 := Lib.hid e1
      have HQ := Lib.hid (And.intro hq1 hq2)
      clear e1 hp hq1 hq2
      cases hoo : (decide (u ∈ r.rs) || decide (u ∈ r.ws)) with
      | true =>
        rw [hoo] at HO
        have HN : Hid (R.1 = noRt ∧ R.2 = 5) := by
          rw [← HR.out]
          unfold grantF
          rw [if_neg (by rw [HQ.out.1]; simp), if_neg (by rw [HQ.out.2]; simp), if_pos (by simpa [HE1.out] using hoo)]
          exact ⟨rfl, rfl⟩
        clear hoo
        go_wp2_with fail
        refine HO.out.mono ?_
        rintro e w2 ⟨rfl, hb⟩
        have HB2 := Lib.hid (below_step HB1.out hb)
        have HY2 := Lib.hid (HY1.out.below hb)
        clear hb HO HY1 HB1 x0 x1 x2 x3 x4
        obtain ⟨y0, y1, y2, y3, y4⟩ := HY2.out.cell
        have z0 := HY2.out.free 0
        have z1 := HY2.out.free 1
        have z2 := HY2.out.free 2
        have z3 := HY2.out.free 3
        have z4 := HY2.out.free 4
        go_wp2
        obtain ⟨cs, hcs, hblk⟩ := HY2.out.put noRt (.slice none 0 0) (.slice none 0 0)
        have hbl := BoxAt.put_below (b := w.heap.size + 1) HB2.out (by omega) noRt (.slice none 0 0) (.slice none 0 0)
        subst hcs
        refine bodyPost_ret (results_ct rfl _ _ (w.heap.size + 1) 26 _ (0, 0) _ rfl hblk Tryd.underlying26 rfl (by kernel_rfl)) rfl ?_
        obtain ⟨R, er⟩ := R
        obtain ⟨rfl, rfl⟩ := (show Hid (R = noRt ∧ er = 5) from HN).out
        exact ⟨_, _, rfl, Kd.R_nil _ _ _ _ _, Kd.R_nil _ _ _ _ _, hbl⟩
      | false =>
        rw [hoo] at HO
        have hno : u ∉ r.rs ∧ u ∉ r.ws := by simpa using hoo
        have HNO := Lib.hid hno
        clear hoo hno
        go_wp2_with fail
        refine HO.out.mono ?_
        rintro e w2 ⟨rfl, hb⟩
        have HB2 := Lib.hid (below_step HB1.out hb)
        have HY2 := Lib.hid (HY1.out.below hb)
        have HX2 := Lib.hid (HX1.out.below hb)
        clear hb HO HY1 HB1 HX1 x0 x1 x2 x3 x4
        obtain ⟨x0, x1, x2, x3, x4⟩ := HX2.out.cell
        have hlen : r.rs.length + r.ws.length ≤ 5 := HP.out.2.2.2.1
        by_cases h5 : r.rs.length + r.ws.length = 5
        · have HN : Hid (R.1 = noRt ∧ R.2 = 10) := by
            rw [← HR.out]
            unfold grantF
            rw [if_neg (by rw [HQ.out.1]; simp), if_neg (by rw [HQ.out.2]; simp), if_neg (by rintro (h | h | h); exact HE1.out h; exact HNO.out.1 h; exact HNO.out.2 h), if_pos (by omega)]
            exact ⟨rfl, rfl⟩
          have hge : (r.rs.length : Int) + (r.ws.length : Int) ≥ 5 := by omega
          clear h5
          obtain ⟨y0, y1, y2, y3, y4⟩ := HY2.out.cell
          have z0 := HY2.out.free 0
          have z1 := HY2.out.free 1
          have z2 := HY2.out.free 2
          have z3 := HY2.out.free 3
          have z4 := HY2.out.free 4
          go_wp2
          obtain ⟨cs, hcs, hblk⟩ := HY2.out.put noRt (.slice none 0 0) (.slice none 0 0)
          have hbl := BoxAt.put_below (b := w.heap.size + 1) HB2.out (by omega) noRt (.slice none 0 0) (.slice none 0 0)
          subst hcs
          refine bodyPost_ret (results_ct rfl _ _ (w.heap.size + 1) 26 _ (0, 0) _ rfl hblk Tryd.underlying26 rfl (by kernel_rfl)) rfl ?_
          obtain ⟨R, er⟩ := R
          obtain ⟨rfl, rfl⟩ := (show Hid (R = noRt ∧ er = 10) from HN).out
          exact ⟨_, _, rfl, Kd.R_nil _ _ _ _ _, Kd.R_nil _ _ _ _ _, hbl⟩
        · have hge : ¬ (r.rs.length : Int) + (r.ws.length : Int) ≥ 5 := by omega
          have hlt5 : r.rs.length + r.ws.length < 5 := by omega
          clear hlen h5
          have l1 : r.rs.length ≤ 1000000 := by omega
          have l2 : r.ws.length ≤ 1000000 := by omega
          go_wp2_with fail
          have HBd := Lib.hid (below_drew HB2.out)
          have HXd : Hid (BoxAt w2.drew w.heap.size r (.slice A r.rs.length c) (.slice A' r.ws.length c')) := HX2.out
          have HYd : Hid (BoxAt w2.drew (w.heap.size + 1) noRt (.slice none 0 0) (.slice none 0 0)) := HY2.out
          go_region_with
            (first
              | (go_at_call 33; (with_reducible refine (clone_any A c r.rs w2.drew (Kd.C_below HC1.out HBd.out) l1).mono ?_); rintro e w3 ⟨v3, rfl, ho3, hb3⟩; obtain ⟨A3, c3, rfl, _⟩ := own_C ho3; have HO3 := Lib.hid ho3; have HB3 := Lib.hid hb3; have HX3 := Lib.hid (HXd.out.below hb3); have HC33 := Lib.hid (Kd.C_below HC3.out (below_step HBd.out hb3)); obtain ⟨_, _, _, p3, p4⟩ := HX3.out.cell; clear ho3 hb3)
              | (go_at_call 33; (with_reducible refine (clone_any A' c' r.ws w3 HC33.out l2).mono ?_); rintro e w4 ⟨v4, rfl, ho4, hb4⟩; obtain ⟨A4, c4, rfl, _⟩ := own_C ho4; have HO4 := Lib.hid ho4; have HB4 := Lib.hid hb4; have HX4 := Lib.hid (HX3.out.below hb4); clear p3 p4; obtain ⟨_, _, _, q3, q4⟩ := HX4.out.cell; have z3 := HX4.out.free 3; have z4 := HX4.out.free 4; clear ho4 hb4))
          all_goals
            have hst := St.start (l3 := r.rs) (l4 := r.ws) HBd.out HXd.out HYd.out HO3.out HB3.out HO4.out HB4.out
            generalize ((w4.setCell ⟨w.heap.size, 3, none⟩ (.slice A3 r.rs.length c3)).setCell ⟨w.heap.size, 4, none⟩ (.slice A4 r.ws.length c4)) = W5 at hst ⊢
            have HST := Lib.hid hst
            clear hst HO3 HB3 HO4 HB4 HX3 HX4 HC33 q3 q4 z3 z4 x0 x1 x2 x3 x4 HBd HXd HYd HB2 HX2 HY2
            obtain ⟨x0, x1, x2, x3, x4⟩ := HST.out.box.cell
            cases wr with
            | false =>
              have HPL := Lib.hid (place_call r.rs u A3 c3 _ W5 l1 HST.out.own3)
              go_wp2_with fail
              refine HPL.out.mono ?_
              rintro e w6 ⟨rfl, hb⟩
              have HS6 := Lib.hid (HST.out.below hb)
              clear hb HPL HST x0 x1 x2 x3 x4
              obtain ⟨x0, x1, x2, x3, x4⟩ := HS6.out.box.cell
              have HIN := insert_any w6 (w.heap.size + 2) (.slice A3 r.rs.length c3) r.rs (searchN r.rs u) u HS6.out.own3 (by obtain ⟨cs, _, h⟩ := HS6.out.res; have := blk_lt h; omega) (search_le HP.out.2.2.2.2.1) l1
              rw [ins_take HP.out.2.2.2.2.1] at HIN
              have HIN := Lib.hid HIN
              go_wp2_with fail
              refine HIN.out.mono ?_
              rintro e w7 ⟨v', rfl, ho7, hg7, hat7⟩
              have HN : Hid (R = (⟨r.o, r.f, r.e, insL r.rs u, r.ws⟩, 0)) := by
                rw [← HR.out]
                unfold grantF
                rw [if_neg (by rw [HQ.out.1]; simp), if_neg (by rw [HQ.out.2]; simp), if_neg (by rintro (h | h | h); exact HE1.out h; exact HNO.out.1 h; exact HNO.out.2 h), if_neg (by omega)]
                rfl
              obtain ⟨A7, c7, rfl, _⟩ := own_C ho7
              have HX7 := Lib.hid (HS6.out.box.grown hg7 (own_not HS6.out.own3 (by omega)))
              have HY7 := Lib.hid (HS6.out.res.grown hg7 (own_not HS6.out.own3 (by omega)))
              have HS7 := Lib.hid (HS6.out.set3 hg7 ho7 hat7)
              clear ho7 hg7 hat7 HIN HS6 x0 x1 x2 x3 x4
              obtain ⟨x0, x1, x2, x3, x4⟩ := HX7.out.cell
              have f3 := HX7.out.free 3
              obtain ⟨y0, y1, y2, y3, y4⟩ := HY7.out.cell
              have z0 := HY7.out.free 0
              have z1 := HY7.out.free 1
              have z2 := HY7.out.free 2
              have z3 := HY7.out.free 3
              have z4 := HY7.out.free 4
              go_wp2
              obtain ⟨cs, hcs, hblk⟩ := HS7.out.res.put ⟨r.o, r.f, r.e, insL r.rs u, r.ws⟩ (.slice A7 (insL r.rs u).length c7) (.slice A4 r.ws.length c4)
              have hbl := BoxAt.put_below (b := w.heap.size + 1) HS7.out.bel (by omega) ⟨r.o, r.f, r.e, insL r.rs u, r.ws⟩ (.slice A7 (insL r.rs u).length c7) (.slice A4 r.ws.length c4)
              subst hcs
              refine bodyPost_ret (results_ct rfl _ _ (w.heap.size + 1) 26 _ (0, 0) _ rfl hblk Tryd.underlying26 rfl (by kernel_rfl)) rfl ?_
              have hrw := HS7.out.fin (.string r.o) (.string r.f) (.int .i64 r.e) (.slice A7 (insL r.rs u).length c7) (.slice A4 r.ws.length c4)
              obtain rfl := HN.out
              exact ⟨_, _, rfl, hrw.1, hrw.2, hbl⟩
            | true =>
              have HPL := Lib.hid (place_call r.ws u A4 c4 _ W5 l2 HST.out.own4)
              go_wp2_with fail
              refine HPL.out.mono ?_
              rintro e w6 ⟨rfl, hb⟩
              have HS6 := Lib.hid (HST.out.below hb)
              clear hb HPL HST x0 x1 x2 x3 x4
              obtain ⟨x0, x1, x2, x3, x4⟩ := HS6.out.box.cell
              have HIN := insert_any w6 (w.heap.size + 2) (.slice A4 r.ws.length c4) r.ws (searchN r.ws u) u HS6.out.own4 (by obtain ⟨cs, _, h⟩ := HS6.out.res; have := blk_lt h; omega) (search_le HP.out.2.2.2.2.2.1) l2
              rw [ins_take HP.out.2.2.2.2.2.1] at HIN
              have HIN := Lib.hid HIN
              go_wp2_with fail
              refine HIN.out.mono ?_
              rintro e w7 ⟨v', rfl, ho7, hg7, hat7⟩
              have HN : Hid (R = (⟨r.o, r.f, r.e, r.rs, insL r.ws u⟩, 0)) := by
                rw [← HR.out]
                unfold grantF
                rw [if_neg (by rw [HQ.out.1]; simp), if_neg (by rw [HQ.out.2]; simp), if_neg (by rintro (h | h | h); exact HE1.out h; exact HNO.out.1 h; exact HNO.out.2 h), if_neg (by omega)]
                rfl
              obtain ⟨A7, c7, rfl, _⟩ := own_C ho7
              have HX7 := Lib.hid (HS6.out.box.grown hg7 (own_not HS6.out.own4 (by omega)))
              have HY7 := Lib.hid (HS6.out.res.grown hg7 (own_not HS6.out.own4 (by omega)))
              have HS7 := Lib.hid (HS6.out.set4 hg7 ho7 hat7)
              clear ho7 hg7 hat7 HIN HS6 x0 x1 x2 x3 x4
              obtain ⟨x0, x1, x2, x3, x4⟩ := HX7.out.cell
              have f3 := HX7.out.free 4
              obtain ⟨y0, y1, y2, y3, y4⟩ := HY7.out.cell
              have z0 := HY7.out.free 0
              have z1 := HY7.out.free 1
              have z2 := HY7.out.free 2
              have z3 := HY7.out.free 3
              have z4 := HY7.out.free 4
              go_wp2
              obtain ⟨cs, hcs, hblk⟩ := HS7.out.res.put ⟨r.o, r.f, r.e, r.rs, insL r.ws u⟩ (.slice A3 r.rs.length c3) (.slice A7 (insL r.ws u).length c7)
              have hbl := BoxAt.put_below (b := w.heap.size + 1) HS7.out.bel (by omega) ⟨r.o, r.f, r.e, r.rs, insL r.ws u⟩ (.slice A3 r.rs.length c3) (.slice A7 (insL r.ws u).length c7)
              subst hcs
              refine bodyPost_ret (results_ct rfl _ _ (w.heap.size + 1) 26 _ (0, 0) _ rfl hblk Tryd.underlying26 rfl (by kernel_rfl)) rfl ?_
              have hrw := HS7.out.fin (.string r.o) (.string r.f) (.int .i64 r.e) (.slice A3 r.rs.length c3) (.slice A7 (insL r.ws u).length c7)
              obtain rfl := HN.out
              exact ⟨_, _, rfl, hrw.1, hrw.2, hbl⟩
  · have HN : Hid ((R.1 = noRt) ∧ R.2 = askedF r u) := by
      rw [← HR.out]
      unfold grantF
      unfold askedF at ha ⊢
      cases q1 : rightR r with
      | false => exact ⟨rfl, rfl⟩
      | true =>
        cases q2 : rightN (bytes u) with
        | false => exact ⟨rfl, rfl⟩
        | true => rw [q1, q2] at ha; exact absurd rfl ha
    obtain ⟨y0, y1, y2, y3, y4⟩ := HY1.out.cell
    have z0 := HY1.out.free 0
    have z1 := HY1.out.free 1
    have z2 := HY1.out.free 2
    have z3 := HY1.out.free 3
    have z4 := HY1.out.free 4
    generalize askedF r u = ER at *
    have hE1 : ((ER : Int) == 0) = false := by rw [beq_eq_false_iff_ne]; exact ha
    have hE2 : ((ER : Int) != 0) = true := by rw [bne_iff_ne]; exact ha
    clear ha
    go_wp2
    obtain ⟨cs, hcs, hblk⟩ := HY1.out.put noRt (.slice none 0 0) (.slice none 0 0)
    have hbl := BoxAt.put_below (b := w.heap.size + 1) HB1.out (by omega) noRt (.slice none 0 0) (.slice none 0 0)
    subst hcs
    refine bodyPost_ret (results_ct rfl _ _ (w.heap.size + 1) 26 _ (0, 0) _ rfl hblk Tryd.underlying26 rfl (by kernel_rfl)) rfl ?_
    obtain ⟨R, er⟩ := R
    obtain ⟨rfl, rfl⟩ := HN.out
    exact ⟨_, _, rfl, Kd.R_nil _ _ _ _ _, Kd.R_nil _ _ _ _ _, hbl⟩
end Go.Proofs.YtfhanoloaejmkaaDoor
end
section

namespace Go.Proofs.YtfhanoloaejmkaaDoor
open Go.RowKit Go.Proofs.YtfhanoloaejmkaaDoorW.PrintWords Go.Proofs.YtfhanoloaejmkaaDoor.Ref
set_option linter.unusedVariables false
set_option linter.unusedSimpArgs false
structure Bx (w0 W : World) (r : Rt) (v3 v4 : Value) (u : ByteArray) : Prop where
  bel : Below w0.heap.size w0 W
  box : BoxAt W w0.heap.size r v3 v4
  usr : W.heap[w0.heap.size + 1]? = some (.cells #[.string u] 9 (0, 0))
  res : BoxAt W (w0.heap.size + 1 + 1) noRt (.slice none 0 0) (.slice none 0 0)
theorem Bx.below {w0 W W' : World} {r : Rt} {v3 v4 : Value} {u : ByteArray} (h : Bx w0 W r v3 v4 u) (hb : Below W.heap.size W W') : Bx w0 W' r v3 v4 u :=
  ⟨below_step h.bel hb, h.box.below hb, blk_below h.usr hb, h.res.below hb⟩
theorem Bx.size {w0 W : World} {r : Rt} {v3 v4 : Value} {u : ByteArray} (h : Bx w0 W r v3 v4 u) : w0.heap.size + 3 ≤ W.heap.size := by
  obtain ⟨cs, _, hc⟩ := h.res
  have := blk_lt hc
  omega
theorem Bx.grown {w0 W W' : World} {r : Rt} {v3 v4 : Value} {u : ByteArray} {row : Option Nat} (h : Bx w0 W r v3 v4 u) (hg : W.grownBy W' row) (hr : ∀ k, row = some k → w0.heap.size + 3 ≤ k) : Bx w0 W' r v3 v4 u := by
  have hs := h.size
  refine ⟨h.bel.grown hg (by omega) (fun k hk => by have := hr k hk; omega), h.box.grown hg (fun e => by have := hr _ e.symm; omega), blk_grown h.usr hg (fun e => by have := hr _ e.symm; omega), h.res.grown hg (fun e => by have := hr _ e.symm; omega)⟩
theorem Bx.cell {w0 W : World} {r : Rt} {v3 v4 : Value} {u : ByteArray} (h : Bx w0 W r v3 v4 u) : W.cell? ⟨w0.heap.size + 1, 0, none⟩ = some (.string u) := blk_cell h.usr 0
theorem BoxAt.set2 {w : World} {b : Nat} {r : Rt} {v3 v4 : Value} (h : BoxAt w b r v3 v4) (n : Int) : BoxAt (w.setCell ⟨b, 2, none⟩ (.int .i64 n)) b ⟨r.o, r.f, n, r.rs, r.ws⟩ v3 v4 := by
  obtain ⟨cs, rfl, h⟩ := h
  exact ⟨_, rfl, blk_set h 2 _⟩
theorem own_apart {W4 W5 W6 : World} {B : Nat} {v v5 : Value} {l l5 : List ByteArray} (h4 : W4.ownsRow B 9 1 v l.length (strs l)) (h : W5.ownsRow B 9 1 v l.length (strs l)) (h5 : W5.ownsRow W4.heap.size 9 1 v5 l5.length (strs l5)) (hg : W5.grownBy W6 v5.ownBlock) :
    W6.ownsRow B 9 1 v l.length (strs l) ∧ True := by
  refine ⟨own_other h hg ?_, trivial⟩
  cases e : v.ownBlock with
  | none => exact Or.inl rfl
  | some k =>
    refine Or.inr fun e2 => ?_
    have h1 := own_lt h4 k e
    have h2 := own_base h5 k e2.symm
    omega
theorem rows_fin {w0 W : World} {v3 v4 : Value} {l3 l4 : List ByteArray} (o3 : W.ownsRow (w0.heap.size + 3) 9 1 v3 l3.length (strs l3)) (o4 : W.ownsRow (w0.heap.size + 3) 9 1 v4 l4.length (strs l4)) (hap : ∀ k, v3.ownBlock = some k → v4.ownBlock ≠ some k) (p q n a b c d e : Value) :
    Kd.R Kd.string 9 ((((((((W.setCell ⟨w0.heap.size, 3, none⟩ p).setCell ⟨w0.heap.size, 4, none⟩ q).setCell ⟨w0.heap.size, 2, none⟩ n).setCell ⟨w0.heap.size + 1 + 1, 0, none⟩ a).setCell ⟨w0.heap.size + 1 + 1, 1, none⟩ b).setCell ⟨w0.heap.size + 1 + 1, 2, none⟩ c).setCell ⟨w0.heap.size + 1 + 1, 3, none⟩ d).setCell ⟨w0.heap.size + 1 + 1, 4, none⟩ e) w0.heap.size (fun k_ => some k_ ≠ (v4 : Value).ownBlock) v3 l3 ∧
      Kd.R Kd.string 9 ((((((((W.setCell ⟨w0.heap.size, 3, none⟩ p).setCell ⟨w0.heap.size, 4, none⟩ q).setCell ⟨w0.heap.size, 2, none⟩ n).setCell ⟨w0.heap.size + 1 + 1, 0, none⟩ a).setCell ⟨w0.heap.size + 1 + 1, 1, none⟩ b).setCell ⟨w0.heap.size + 1 + 1, 2, none⟩ c).setCell ⟨w0.heap.size + 1 + 1, 3, none⟩ d).setCell ⟨w0.heap.size + 1 + 1, 4, none⟩ e) w0.heap.size (fun k_ => some k_ ≠ (v3 : Value).ownBlock) v4 l4 := by
  have q1 : w0.heap.size < w0.heap.size + 3 := by omega
  have q2 : w0.heap.size + 1 + 1 < w0.heap.size + 3 := by omega
  have go : ∀ {v : Value} {l : List ByteArray}, W.ownsRow (w0.heap.size + 3) 9 1 v l.length (strs l) → ((((((((W.setCell ⟨w0.heap.size, 3, none⟩ p).setCell ⟨w0.heap.size, 4, none⟩ q).setCell ⟨w0.heap.size, 2, none⟩ n).setCell ⟨w0.heap.size + 1 + 1, 0, none⟩ a).setCell ⟨w0.heap.size + 1 + 1, 1, none⟩ b).setCell ⟨w0.heap.size + 1 + 1, 2, none⟩ c).setCell ⟨w0.heap.size + 1 + 1, 3, none⟩ d).setCell ⟨w0.heap.size + 1 + 1, 4, none⟩ e).ownsRow w0.heap.size 9 1 v l.length (strs l) := fun h =>
    own_weaken (own_set (own_set (own_set (own_set (own_set (own_set (own_set (own_set h q1 p) q1 q) q1 n) q2 a) q2 b) q2 c) q2 d) q2 e) (by omega)
  exact ⟨Kd.R_of_own (go o3) (fun k hk e => hap k hk e.symm), Kd.R_of_own (go o4) (fun k hk e => hap k e.symm hk)⟩
set_option maxHeartbeats 4000000 in
set_option maxRecDepth 100000 in
theorem revoke_any (r : Rt) (u : ByteArray) (A : Option Addr) (c : Nat) (A' : Option Addr) (c' : Nat) (w : World) (HTB : Aside0 (Tabs w)) (hs : smallR r = true) (hu : u.size ≤ 1000000) (h1 : Kd.C Kd.string w A r.rs.length r.rs) (h2 : r.rs.length ≤ c) (h3 : Kd.C Kd.string w A' r.ws.length r.ws) (h4 : r.ws.length ≤ c') :
    Calls Tryd.prog 15 #[.agg #[.string r.o, .string r.f, .int .i64 r.e, .slice A r.rs.length c, .slice A' r.ws.length c'], .string u] w fun e w' => ∃ v3_ v4_ : Value, e = .returned (.tuple #[.agg #[.string (revokeF r u).1.o, .string (revokeF r u).1.f, .int .i64 (revokeF r u).1.e, v3_, v4_], .int .i64 (revokeF r u).2]) ∧ Kd.R Kd.string 9 w' w.heap.size (fun k_ => some k_ ≠ (v4_ : Value).ownBlock) v3_ (revokeF r u).1.rs ∧ Kd.R Kd.string 9 w' w.heap.size (fun k_ => some k_ ≠ (v3_ : Value).ownBlock) v4_ (revokeF r u).1.ws ∧ Below w.heap.size w w' := by
  obtain ⟨R, hR⟩ : ∃ R, revokeF r u = R := ⟨_, rfl⟩
  rw [hR]
  have HR := Lib.hid hR
  clear hR
  go_enter Tryd.func15, Tryd.ntmps15
  have hb0 : Bx w (((w.alloc (Obj.cells #[Value.string r.o, Value.string r.f, Value.int IntKind.i64 r.e, Value.slice A r.rs.length c, Value.slice A' r.ws.length c'] 26)).alloc (Obj.cells #[Value.string u] 9)).alloc (Obj.cells #[Value.string { data := #[] }, Value.string { data := #[] }, Value.int IntKind.i64 0, Value.slice none 0 0, Value.slice none 0 0] 26)) r (.slice A r.rs.length c) (.slice A' r.ws.length c') u := by
    refine ⟨below_alloc (below_alloc (below_alloc (Below.refl _ _) _) _) _, ⟨_, rfl, ?_⟩, ?_, ⟨_, rfl, ?_⟩⟩
    · rw [(World.grownBy_alloc _ _ none).block _ (by rw [World.size_alloc, World.size_alloc]; omega) (by simp), (World.grownBy_alloc _ _ none).block _ (by rw [World.size_alloc]; omega) (by simp)]
      exact heap_new _ _ _ rfl
    · rw [(World.grownBy_alloc _ _ none).block _ (by rw [World.size_alloc, World.size_alloc]; omega) (by simp)]
      exact heap_new _ _ _ (by rw [World.size_alloc])
    · exact heap_new _ _ _ (by rw [World.size_alloc, World.size_alloc])
  have HA := Lib.hid (asked_call r u A c A' c' _ ⟨HTB.out.below hb0.bel⟩ hs hu (Kd.C_below h1 hb0.bel) h2 (Kd.C_below h3 hb0.bel) h4)
  have HB0 := Lib.hid hb0
  have HS := Lib.hid hs
  have HC1 := Lib.hid h1
  have HC3 := Lib.hid h3
  clear hb0 hs h1 h3
  go_wp2_with fail
  refine HA.out.mono ?_
  rintro e w1 ⟨rfl, hb⟩
  have HB1 := Lib.hid (HB0.out.below hb)
  clear hb HB0 HA
  by_cases ha : askedF r u = 0
  · have hq : rightR r = true ∧ rightN (bytes u) = true := by
      unfold askedF at ha
      cases q1 : rightR r with
      | false => rw [q1] at ha; simp at ha
      | true =>
        cases q2 : rightN (bytes u) with
        | false => rw [q1, q2] at ha; simp at ha
        | true => exact ⟨rfl, rfl⟩
    obtain ⟨hq1, hq2⟩ := hq
    have hp := right_parts hq1
    obtain ⟨x0, x1, x2, x3, x4⟩ := HB1.out.box.cell
    have x5 := HB1.out.cell
    rw [ha]
    clear ha
    have HO := Lib.hid (other_call r u A c A' c' w1 HS.out (Kd.C_below HC1.out HB1.out.bel) h2 (Kd.C_below HC3.out HB1.out.bel) h4)
    rw [searchB_eq hp.2.2.2.2.1, searchB_eq hp.2.2.2.2.2.1] at HO
    have HP := Lib.hid hp
    have HQ := Lib.hid (And.intro hq1 hq2)
    clear hp hq1 hq2
    cases hoo : (decide (u ∈ r.rs) || decide (u ∈ r.ws)) with
    | false =>
      rw [hoo] at HO
      have hno : u ∉ r.rs ∧ u ∉ r.ws := by simpa using hoo
      have HN : Hid (R.1 = noRt ∧ R.2 = 4) := by
        rw [← HR.out]
        unfold revokeF
        rw [if_neg (by rw [HQ.out.1]; simp), if_neg (by rw [HQ.out.2]; simp), if_pos (by rintro (h | h); exact hno.1 h; exact hno.2 h)]
        exact ⟨rfl, rfl⟩
      clear hoo hno
      go_wp2_with fail
      refine HO.out.mono ?_
      rintro e w2 ⟨rfl, hb⟩
      have HB2 := Lib.hid (HB1.out.below hb)
      clear hb HO HB1 x0 x1 x2 x3 x4 x5
      obtain ⟨y0, y1, y2, y3, y4⟩ := HB2.out.res.cell
      have z0 := HB2.out.res.free 0
      have z1 := HB2.out.res.free 1
      have z2 := HB2.out.res.free 2
      have z3 := HB2.out.res.free 3
      have z4 := HB2.out.res.free 4
      go_wp2
      obtain ⟨cs, hcs, hblk⟩ := HB2.out.res.put noRt (.slice none 0 0) (.slice none 0 0)
      have hbl := BoxAt.put_below (b := w.heap.size + 1 + 1) HB2.out.bel (by omega) noRt (.slice none 0 0) (.slice none 0 0)
      subst hcs
      refine bodyPost_ret (results_ct rfl _ _ (w.heap.size + 1 + 1) 26 _ (0, 0) _ rfl hblk Tryd.underlying26 rfl (by kernel_rfl)) rfl ?_
      obtain ⟨R, er⟩ := R
      obtain ⟨rfl, rfl⟩ := (show Hid (R = noRt ∧ er = 4) from HN).out
      exact ⟨_, _, rfl, Kd.R_nil _ _ _ _ _, Kd.R_nil _ _ _ _ _, hbl⟩
    | true =>
      rw [hoo] at HO
      have hno : u ∈ r.rs ∨ u ∈ r.ws := by simpa using hoo
      have HNO := Lib.hid hno
      clear hoo hno
      go_wp2_with fail
      refine HO.out.mono ?_
      rintro e w2 ⟨rfl, hb⟩
      have HB2 := Lib.hid (HB1.out.below hb)
      clear hb HO HB1 x0 x1 x2 x3 x4 x5
      obtain ⟨x0, x1, x2, x3, x4⟩ := HB2.out.box.cell
      have x5 := HB2.out.cell
      have he0 : 0 ≤ r.e := HP.out.2.2.1.1
      have he1 : r.e ≤ 7 := HP.out.2.2.1.2
      by_cases h7 : r.e = 7
      · have HN : Hid (R.1 = noRt ∧ R.2 = 9) := by
          rw [← HR.out]
          unfold revokeF
          rw [if_neg (by rw [HQ.out.1]; simp), if_neg (by rw [HQ.out.2]; simp), if_neg (fun h => h HNO.out), if_pos h7]
          exact ⟨rfl, rfl⟩
        have h7b : (r.e == 7) = true := by rw [h7]; rfl
        clear h7
        obtain ⟨y0, y1, y2, y3, y4⟩ := HB2.out.res.cell
        have z0 := HB2.out.res.free 0
        have z1 := HB2.out.res.free 1
        have z2 := HB2.out.res.free 2
        have z3 := HB2.out.res.free 3
        have z4 := HB2.out.res.free 4
        go_wp2
        obtain ⟨cs, hcs, hblk⟩ := HB2.out.res.put noRt (.slice none 0 0) (.slice none 0 0)
        have hbl := BoxAt.put_below (b := w.heap.size + 1 + 1) HB2.out.bel (by omega) noRt (.slice none 0 0) (.slice none 0 0)
        subst hcs
        refine bodyPost_ret (results_ct rfl _ _ (w.heap.size + 1 + 1) 26 _ (0, 0) _ rfl hblk Tryd.underlying26 rfl (by kernel_rfl)) rfl ?_
        obtain ⟨R, er⟩ := R
        obtain ⟨rfl, rfl⟩ := (show Hid (R = noRt ∧ er = 9) from HN).out
        exact ⟨_, _, rfl, Kd.R_nil _ _ _ _ _, Kd.R_nil _ _ _ _ _, hbl⟩
      · have h7b : (r.e == 7) = false := by rw [beq_eq_false_iff_ne]; exact h7
        have HN : Hid (R = (⟨r.o, r.f, r.e + 1, dropL r.rs u, dropL r.ws u⟩, 0)) := by
          rw [← HR.out]
          unfold revokeF
          rw [if_neg (by rw [HQ.out.1]; simp), if_neg (by rw [HQ.out.2]; simp), if_neg (fun h => h HNO.out), if_neg h7]
          exact Lib.hid rfl
        clear h7
        have l1 : r.rs.length ≤ 1000000 := by have := HP.out.2.2.2.1; omega
        have l2 : r.ws.length ≤ 1000000 := by have := HP.out.2.2.2.1; omega
        have HBd : Hid (Bx w w2.drew r (.slice A r.rs.length c) (.slice A' r.ws.length c') u) := Lib.hid ⟨below_drew HB2.out.bel, HB2.out.box, HB2.out.usr, HB2.out.res⟩
        go_wp2_with fail
        go_region_with
          (first
            | (go_at_call 33; (with_reducible refine (clone_any A c r.rs w2.drew (Kd.C_below HC1.out HBd.out.bel) l1).mono ?_); rintro e w3 ⟨v3, rfl, ho3, hb3⟩; obtain ⟨A3, c3, rfl, _⟩ := own_C ho3; have HB3 := Lib.hid (HBd.out.below hb3); have HO3 := Lib.hid (own_weaken ho3 HBd.out.size); obtain ⟨_, _, _, p3, p4⟩ := HB3.out.box.cell; have p5 := HB3.out.cell; clear ho3 hb3)
            | (go_at_call 37; (with_reducible refine (delete_any w3 (w.heap.size + 3) (w.heap.size + 1) (.slice A3 r.rs.length c3) r.rs u HO3.out l1 HB3.out.cell (own_not HO3.out (by omega))).mono ?_); rintro e w4 ⟨v4, rfl, ho4, hg4, hs4⟩; obtain ⟨A4, c4, rfl, _⟩ := own_C ho4; have HB4 := Lib.hid (HB3.out.grown hg4 (fun k hk => own_base HO3.out k hk)); have HO4 := Lib.hid ho4; have HC34 := Lib.hid (Kd.C_below HC3.out HB4.out.bel); clear p3 p4 p5; obtain ⟨_, _, _, q3, q4⟩ := HB4.out.box.cell; have q5 := HB4.out.cell; clear ho4 hg4 hs4)
            | (go_at_call 33; (with_reducible refine (clone_any A' c' r.ws w4 HC34.out l2).mono ?_); rintro e w5 ⟨v5, rfl, ho5, hb5⟩; obtain ⟨A5, c5, rfl, _⟩ := own_C ho5; have HB5 := Lib.hid (HB4.out.below hb5); have HO45 := Lib.hid (pw_own_below HO4.out hb5); have HO5 := Lib.hid ho5; have HW5 := Lib.hid hb5.size; clear q3 q4 q5; obtain ⟨_, _, _, s3, s4⟩ := HB5.out.box.cell; have s5 := HB5.out.cell; clear ho5 hb5)
            | (go_at_call 37; (with_reducible refine (delete_any w5 w4.heap.size (w.heap.size + 1) (.slice A5 r.ws.length c5) r.ws u HO5.out l2 HB5.out.cell (own_not HO5.out (by have := HB4.out.size; omega))).mono ?_); rintro e w6 ⟨v6, rfl, ho6, hg6, hs6⟩; obtain ⟨A6, c6, rfl, _⟩ := own_C ho6; have HB6 := Lib.hid (HB5.out.grown hg6 (fun k hk => by have := own_base HO5.out k hk; have := HB4.out.size; omega)); have HO6 := Lib.hid ho6; have HO46 := Lib.hid (own_apart HO4.out HO45.out HO5.out hg6); clear s3 s4 s5; obtain ⟨t0, t1, t2, t3, t4⟩ := HB6.out.box.cell; have f2 := HB6.out.box.free 2; have f3 := HB6.out.box.free 3; have f4 := HB6.out.box.free 4; clear ho6 hg6 hs6))
        all_goals
          obtain ⟨y0, y1, y2, y3, y4⟩ := HB6.out.res.cell
          have z0 := HB6.out.res.free 0
          have z1 := HB6.out.res.free 1
          have z2 := HB6.out.res.free 2
          have z3 := HB6.out.res.free 3
          have z4 := HB6.out.res.free 4
          go_wp2
          have hres := (((HB6.out.res.far (p := ⟨w.heap.size, 3, none⟩) (by show _ ≠ w.heap.size; omega) (.slice A4 (dropL r.rs u).length c4)).far (p := ⟨w.heap.size, 4, none⟩) (by show _ ≠ w.heap.size; omega) (.slice A6 (dropL r.ws u).length c6)).far (p := ⟨w.heap.size, 2, none⟩) (by show _ ≠ w.heap.size; omega) (.int .i64 (r.e + 1)))
          have hbel := ((HB6.out.bel.setCell (p := ⟨w.heap.size, 3, none⟩) (Nat.le_refl _) (.slice A4 (dropL r.rs u).length c4)).setCell (p := ⟨w.heap.size, 4, none⟩) (Nat.le_refl _) (.slice A6 (dropL r.ws u).length c6)).setCell (p := ⟨w.heap.size, 2, none⟩) (Nat.le_refl _) (.int .i64 (r.e + 1))
          obtain ⟨cs, hcs, hblk⟩ := hres.put ⟨r.o, r.f, r.e + 1, [], []⟩ (.slice A4 (dropL r.rs u).length c4) (.slice A6 (dropL r.ws u).length c6)
          have hbl := BoxAt.put_below (b := w.heap.size + 1 + 1) hbel (by omega) ⟨r.o, r.f, r.e + 1, [], []⟩ (.slice A4 (dropL r.rs u).length c4) (.slice A6 (dropL r.ws u).length c6)
          subst hcs
          refine bodyPost_ret (results_ct rfl _ _ (w.heap.size + 1 + 1) 26 _ (0, 0) _ rfl hblk Tryd.underlying26 rfl (by kernel_rfl)) rfl ?_
          have hrw := rows_fin (w0 := w) HO46.out.1 (own_weaken HO6.out HB4.out.size) (fun k hk e => by have h1 := own_base HO6.out k e; have h2 := own_lt HO4.out k hk; omega) (.slice A4 (dropL r.rs u).length c4) (.slice A6 (dropL r.ws u).length c6) (.int .i64 (r.e + 1)) (.string r.o) (.string r.f) (.int .i64 (r.e + 1)) (.slice A4 (dropL r.rs u).length c4) (.slice A6 (dropL r.ws u).length c6)
          obtain rfl := HN.out
          exact ⟨_, _, rfl, hrw.1, hrw.2, hbl⟩
  · have HN : Hid ((R.1 = noRt) ∧ R.2 = askedF r u) := by
      rw [← HR.out]
      unfold revokeF
      unfold askedF at ha ⊢
      cases q1 : rightR r with
      | false => exact ⟨rfl, rfl⟩
      | true =>
        cases q2 : rightN (bytes u) with
        | false => exact ⟨rfl, rfl⟩
        | true => rw [q1, q2] at ha; exact absurd rfl ha
    generalize askedF r u = ER at *
    have hE1 : ((ER : Int) == 0) = false := by rw [beq_eq_false_iff_ne]; exact ha
    have hE2 : ((ER : Int) != 0) = true := by rw [bne_iff_ne]; exact ha
    clear ha
    obtain ⟨y0, y1, y2, y3, y4⟩ := HB1.out.res.cell
    have z0 := HB1.out.res.free 0
    have z1 := HB1.out.res.free 1
    have z2 := HB1.out.res.free 2
    have z3 := HB1.out.res.free 3
    have z4 := HB1.out.res.free 4
    go_wp2
    obtain ⟨cs, hcs, hblk⟩ := HB1.out.res.put noRt (.slice none 0 0) (.slice none 0 0)
    have hbl := BoxAt.put_below (b := w.heap.size + 1 + 1) HB1.out.bel (by omega) noRt (.slice none 0 0) (.slice none 0 0)
    subst hcs
    refine bodyPost_ret (results_ct rfl _ _ (w.heap.size + 1 + 1) 26 _ (0, 0) _ rfl hblk Tryd.underlying26 rfl (by kernel_rfl)) rfl ?_
    obtain ⟨R, er⟩ := R
    obtain ⟨rfl, rfl⟩ := (show Hid (R = noRt ∧ er = ER) from HN).out
    exact ⟨_, _, rfl, Kd.R_nil _ _ _ _ _, Kd.R_nil _ _ _ _ _, hbl⟩
end Go.Proofs.YtfhanoloaejmkaaDoor
end
section

section
namespace Go.Proofs.YtfhanoloaejmkaaDoor
open Go.RowKit Go.Proofs.YtfhanoloaejmkaaDoorW.PrintWords Go.Proofs.YtfhanoloaejmkaaDoor.Ref
set_option linter.unusedVariables false
set_option linter.unusedSimpArgs false
structure RowsAt (w : World) (B : Nat) (r : Rt) (A : Option Addr) (c : Nat) (A' : Option Addr) (c' : Nat) : Prop where
  h1 : Kd.C Kd.string w A r.rs.length r.rs
  h2 : r.rs.length ≤ c
  h3 : Kd.C Kd.string w A' r.ws.length r.ws
  h4 : r.ws.length ≤ c'
  h5 : ∀ ad, A = some ad → B ≤ ad.block
  h6 : ∀ ad, A' = some ad → B ≤ ad.block
theorem RowsAt.below {w w1 : World} {B : Nat} {r : Rt} {A : Option Addr} {c : Nat} {A' : Option Addr} {c' : Nat} (h : RowsAt w B r A c A' c') (hb : Below w.heap.size w w1) : RowsAt w1 B r A c A' c' :=
  ⟨Kd.C_below h.h1 hb, h.h2, Kd.C_below h.h3 hb, h.h4, h.h5, h.h6⟩
theorem RowsAt.lower {w : World} {B B' : Nat} {r : Rt} {A : Option Addr} {c : Nat} {A' : Option Addr} {c' : Nat} (h : RowsAt w B r A c A' c') (hb : B' ≤ B) : RowsAt w B' r A c A' c' :=
  ⟨h.h1, h.h2, h.h3, h.h4, fun ad e => Nat.le_trans hb (h.h5 ad e), fun ad e => Nat.le_trans hb (h.h6 ad e)⟩
theorem C_far {w : World} {A : Option Addr} {l : List ByteArray} (h : Kd.C Kd.string w A l.length l) {p : Addr} (hp : ∀ ad, A = some ad → ad.block ≠ p.block) (u : Value) : Kd.C Kd.string (w.setCell p u) A l.length l := by
  refine ⟨h.1, h.2.1, fun hn => ?_⟩
  obtain ⟨ad, rfl, hc⟩ := h.2.2 hn
  refine ⟨ad, rfl, fun j q hj => ?_⟩
  obtain ⟨cs, hl, hK, hz⟩ := hc j q hj
  refine ⟨cs, hl, hK, fun i x hx => ?_⟩
  rw [← hz i x hx]
  refine World.cell?_of_block (Below.heap_setCell w p u _ ?_)
  rw [add_block]
  exact hp ad rfl
theorem RowsAt.far {w : World} {B : Nat} {r : Rt} {A : Option Addr} {c : Nat} {A' : Option Addr} {c' : Nat} (h : RowsAt w B r A c A' c') {p : Addr} (hp : p.block < B) (u : Value) : RowsAt (w.setCell p u) B r A c A' c' :=
  ⟨C_far h.h1 (fun ad e => by have := h.h5 ad e; omega) u, h.h2, C_far h.h3 (fun ad e => by have := h.h6 ad e; omega) u, h.h4, h.h5, h.h6⟩
theorem RowsAt.put {w : World} {B b : Nat} {r : Rt} {A : Option Addr} {c : Nat} {A' : Option Addr} {c' : Nat} (h : RowsAt w B r A c A' c') (hp : b < B) (a1 a2 a3 a4 a5 : Value) :
    RowsAt (((((w.setCell ⟨b, 0, none⟩ a1).setCell ⟨b, 1, none⟩ a2).setCell ⟨b, 2, none⟩ a3).setCell ⟨b, 3, none⟩ a4).setCell ⟨b, 4, none⟩ a5) B r A c A' c' :=
  ((((h.far (p := ⟨b, 0, none⟩) hp a1).far (p := ⟨b, 1, none⟩) hp a2).far (p := ⟨b, 2, none⟩) hp a3).far (p := ⟨b, 3, none⟩) hp a4).far (p := ⟨b, 4, none⟩) hp a5
theorem C_nil (w : World) : Kd.C Kd.string w none ([] : List ByteArray).length [] := ⟨rfl, by simp, fun h => absurd h (Nat.lt_irrefl 0)⟩
theorem RowsAt.no (w : World) (B : Nat) : RowsAt w B noRt none 0 none 0 := ⟨C_nil w, Nat.le_refl _, C_nil w, Nat.le_refl _, (fun _ e => by cases e), (fun _ e => by cases e)⟩
theorem RowsAt.nil (w : World) (B : Nat) (o f : ByteArray) (e : Int) : RowsAt w B ⟨o, f, e, [], []⟩ none 0 none 0 := ⟨C_nil w, Nat.le_refl _, C_nil w, Nat.le_refl _, (fun _ e => by cases e), (fun _ e => by cases e)⟩
def Told (w : World) (R : Rt × Int) (e : Ending) (w' : World) : Prop := ∃ A c A' c', e = .returned (.tuple #[.agg #[.string R.1.o, .string R.1.f, .int .i64 R.1.e, .slice A R.1.rs.length c, .slice A' R.1.ws.length c'], .int .i64 R.2]) ∧ RowsAt w' w.heap.size R.1 A c A' c' ∧ Below w.heap.size w w'
theorem told_of {w : World} {R : Rt × Int} {e : Ending} {w' : World} {ok1 ok2 : Nat → Prop} {v3 v4 : Value} (he : e = .returned (.tuple #[.agg #[.string R.1.o, .string R.1.f, .int .i64 R.1.e, v3, v4], .int .i64 R.2])) (h3 : Kd.R Kd.string 9 w' w.heap.size ok1 v3 R.1.rs) (h4 : Kd.R Kd.string 9 w' w.heap.size ok2 v4 R.1.ws) (hb : Below w.heap.size w w') : Told w R e w' := by
  obtain ⟨A, c, rfl, a1, a2⟩ := Kd.R_reads h3
  obtain ⟨A', c', rfl, b1, b2⟩ := Kd.R_reads h4
  obtain ⟨_, inner, ho, _⟩ := h3
  obtain ⟨_, inner', ho', _⟩ := h4
  exact ⟨A, c, A', c', he, ⟨a2, a1, b2, b1, fun ad e => own_base ho ad.block (by rw [e]; rfl), fun ad e => own_base ho' ad.block (by rw [e]; rfl)⟩, hb⟩
theorem grant_call (r : Rt) (u : ByteArray) (wr : Bool) (A : Option Addr) (c : Nat) (A' : Option Addr) (c' : Nat) (w : World) (HTB : Aside0 (Tabs w)) (hs : smallR r = true) (hu : u.size ≤ 1000000) {B : Nat} (h : RowsAt w B r A c A' c') :
    Calls Tryd.prog 14 #[.agg #[.string r.o, .string r.f, .int .i64 r.e, .slice A r.rs.length c, .slice A' r.ws.length c'], .string u, .bool wr] w (Told w (grantF r u wr)) :=
  (grant_any r u wr A c A' c' w HTB hs hu h.h1 h.h2 h.h3 h.h4).mono fun e w' ⟨v3, v4, he, h3, h4, hb⟩ => told_of he h3 h4 hb
theorem revoke_call (r : Rt) (u : ByteArray) (A : Option Addr) (c : Nat) (A' : Option Addr) (c' : Nat) (w : World) (HTB : Aside0 (Tabs w)) (hs : smallR r = true) (hu : u.size ≤ 1000000) {B : Nat} (h : RowsAt w B r A c A' c') :
    Calls Tryd.prog 15 #[.agg #[.string r.o, .string r.f, .int .i64 r.e, .slice A r.rs.length c, .slice A' r.ws.length c'], .string u] w (Told w (revokeF r u)) :=
  (revoke_any r u A c A' c' w HTB hs hu h.h1 h.h2 h.h3 h.h4).mono fun e w' ⟨v3, v4, he, h3, h4, hb⟩ => told_of he h3 h4 hb
theorem can_call (r : Rt) (u : ByteArray) (wr : Bool) (A : Option Addr) (c : Nat) (A' : Option Addr) (c' : Nat) (w : World) (HTB : Aside0 (Tabs w)) (hs : smallR r = true) {B : Nat} (h : RowsAt w B r A c A' c') :
    Calls Tryd.prog 16 #[.agg #[.string r.o, .string r.f, .int .i64 r.e, .slice A r.rs.length c, .slice A' r.ws.length c'], .string u, .bool wr] w fun e w' => e = .returned (.bool (canF r u wr)) ∧ Below w.heap.size w w' := by
  obtain ⟨K, hk⟩ := can_ev r u wr hs
  exact PB.rights_Can.calls K r.o r.f r.e A c r.rs A' c' r.ws u wr _ w HTB h.h1 h.h2 h.h3 h.h4 (hk K (Nat.le_refl _))
theorem fixed_C {w : World} {A : Option Addr} {l : List ByteArray} {c : Nat} (h : Kd.C Kd.string w A l.length l) (hc : l.length ≤ c) (B : Nat) : Kd.V Kd.string 9 w B (fun k => k < w.heap.size) (.slice A l.length c) l := by
  exact Kd.V_mk hc (Kd.C_F Kd.heap_string h)
theorem right_call (r : Rt) (A : Option Addr) (c : Nat) (A' : Option Addr) (c' : Nat) (w : World) (HTB : Aside0 (Tabs w)) (hs : smallR r = true) {B : Nat} (h : RowsAt w B r A c A' c') :
    Calls Tryd.prog 17 #[.agg #[.string r.o, .string r.f, .int .i64 r.e, .slice A r.rs.length c, .slice A' r.ws.length c']] w fun e w' => e = .returned (.bool (rightR r)) ∧ Below w.heap.size w w' := by
  obtain ⟨K, hk⟩ := right_ev r hs
  exact PB.rights_Right.calls K r.o r.f r.e _ A c r.rs _ A' c' r.ws _ w HTB (fixed_C h.h1 h.h2 _) (fixed_C h.h3 h.h4 _) (hk K (Nat.le_refl _))
theorem nameRight_call (s : ByteArray) (w : World) (HTB : Aside0 (Tabs w)) (h : s.size ≤ 1000000) : Calls Tryd.prog 21 #[.string s] w fun e w' => e = .returned (.bool (rightN (bytes s))) ∧ Below w.heap.size w w' := right_any s w (by omega) HTB.out
set_option maxHeartbeats 4000000 in
set_option maxRecDepth 100000 in
theorem new_call (o f : ByteArray) (w : World) (HTB : Aside0 (Tabs w)) (ho : o.size ≤ 1000000) (hf : f.size ≤ 1000000) :
    Calls Tryd.prog 11 #[.string o, .string f] w (Told w (newF o f)) := by
  obtain ⟨R, hR⟩ : ∃ R, newF o f = R := ⟨_, rfl⟩
  rw [hR]
  have HR := Lib.hid hR
  clear hR
  go_enter Tryd.func11, Tryd.ntmps11
  have hb0 : Below w.heap.size w (w.alloc (Obj.cells #[Value.string { data := #[] }, Value.string { data := #[] }, Value.int IntKind.i64 0, Value.slice none 0 0, Value.slice none 0 0] 26)) := below_alloc (Below.refl _ _) _
  have hy0 : BoxAt (w.alloc (Obj.cells #[Value.string { data := #[] }, Value.string { data := #[] }, Value.int IntKind.i64 0, Value.slice none 0 0, Value.slice none 0 0] 26)) w.heap.size noRt (.slice none 0 0) (.slice none 0 0) := ⟨_, rfl, heap_new _ _ _ rfl⟩
  have HA := Lib.hid (nameRight_call o _ ⟨HTB.out.below hb0⟩ ho)
  have HB0 := Lib.hid hb0
  have HY0 := Lib.hid hy0
  clear hb0 hy0
  cases h1 : rightN (bytes o) with
  | false =>
    rw [h1] at HA
    have HN : Hid (R = (noRt, 3)) := by
      rw [← HR.out]; unfold newF; rw [h1]; exact Lib.hid rfl
    clear h1
    go_wp2_with fail
    refine HA.out.mono ?_
    rintro e w1 ⟨rfl, hb⟩
    have HB1 := Lib.hid (below_step HB0.out hb)
    have HY1 := Lib.hid (HY0.out.below hb)
    clear hb HB0 HY0 HA
    obtain ⟨y0, y1, y2, y3, y4⟩ := HY1.out.cell
    have z0 := HY1.out.free 0
    have z1 := HY1.out.free 1
    have z2 := HY1.out.free 2
    have z3 := HY1.out.free 3
    have z4 := HY1.out.free 4
    go_wp2
    obtain ⟨cs, hcs, hblk⟩ := HY1.out.put noRt (.slice none 0 0) (.slice none 0 0)
    have hbl := BoxAt.put_below (b := w.heap.size) HB1.out (Nat.le_refl _) noRt (.slice none 0 0) (.slice none 0 0)
    subst hcs
    refine bodyPost_ret (results_ct rfl _ _ w.heap.size 26 _ (0, 0) _ rfl hblk Tryd.underlying26 rfl (by kernel_rfl)) rfl ?_
    obtain rfl := HN.out
    exact ⟨none, 0, none, 0, rfl, RowsAt.nil _ _ _ _ _, hbl⟩
  | true =>
    rw [h1] at HA
    go_wp2_with fail
    refine HA.out.mono ?_
    rintro e w1 ⟨rfl, hb⟩
    have HB1 := Lib.hid (below_step HB0.out hb)
    have HY1 := Lib.hid (HY0.out.below hb)
    clear hb HB0 HY0 HA
    have HA := Lib.hid (nameRight_call f w1 ⟨HTB.out.below HB1.out⟩ hf)
    cases h2 : rightN (bytes f) with
    | false =>
      rw [h2] at HA
      have HN : Hid (R = (noRt, 3)) := by
        rw [← HR.out]; unfold newF; rw [h1, h2]; exact Lib.hid rfl
      clear h1 h2
      go_wp2_with fail
      refine HA.out.mono ?_
      rintro e w2 ⟨rfl, hb⟩
      have HB2 := Lib.hid (below_step HB1.out hb)
      have HY2 := Lib.hid (HY1.out.below hb)
      clear hb HB1 HY1 HA
      obtain ⟨y0, y1, y2, y3, y4⟩ := HY2.out.cell
      have z0 := HY2.out.free 0
      have z1 := HY2.out.free 1
      have z2 := HY2.out.free 2
      have z3 := HY2.out.free 3
      have z4 := HY2.out.free 4
      go_wp2
      obtain ⟨cs, hcs, hblk⟩ := HY2.out.put noRt (.slice none 0 0) (.slice none 0 0)
      have hbl := BoxAt.put_below (b := w.heap.size) HB2.out (Nat.le_refl _) noRt (.slice none 0 0) (.slice none 0 0)
      subst hcs
      refine bodyPost_ret (results_ct rfl _ _ w.heap.size 26 _ (0, 0) _ rfl hblk Tryd.underlying26 rfl (by kernel_rfl)) rfl ?_
      obtain rfl := HN.out
      exact ⟨none, 0, none, 0, rfl, RowsAt.nil _ _ _ _ _, hbl⟩
    | true =>
      rw [h2] at HA
      have HN : Hid (R = (⟨o, f, 0, [], []⟩, 0)) := by
        rw [← HR.out]; unfold newF; rw [h1, h2]; exact Lib.hid rfl
      clear h1 h2
      go_wp2_with fail
      refine HA.out.mono ?_
      rintro e w2 ⟨rfl, hb⟩
      have HB2 := Lib.hid (below_step HB1.out hb)
      have HY2 := Lib.hid (HY1.out.below hb)
      clear hb HB1 HY1 HA
      obtain ⟨y0, y1, y2, y3, y4⟩ := HY2.out.cell
      have z0 := HY2.out.free 0
      have z1 := HY2.out.free 1
      have z2 := HY2.out.free 2
      have z3 := HY2.out.free 3
      have z4 := HY2.out.free 4
      go_wp2
      obtain ⟨cs, hcs, hblk⟩ := HY2.out.put ⟨o, f, 0, [], []⟩ (.slice none 0 0) (.slice none 0 0)
      have hbl := BoxAt.put_below (b := w.heap.size) HB2.out (Nat.le_refl _) ⟨o, f, 0, [], []⟩ (.slice none 0 0) (.slice none 0 0)
      subst hcs
      refine bodyPost_ret (results_ct rfl _ _ w.heap.size 26 _ (0, 0) _ rfl hblk Tryd.underlying26 rfl (by kernel_rfl)) rfl ?_
      obtain rfl := HN.out
      exact ⟨none, 0, none, 0, rfl, RowsAt.nil _ _ _ _ _, hbl⟩
theorem BoxAt.lt {w : World} {b : Nat} {r : Rt} {v3 v4 : Value} (h : BoxAt w b r v3 v4) : b < w.heap.size := by
  obtain ⟨cs, _, h⟩ := h
  exact blk_lt h
theorem box_new (w : World) (r : Rt) (v3 v4 : Value) : BoxAt (w.alloc (Obj.cells #[Value.string r.o, Value.string r.f, Value.int IntKind.i64 r.e, v3, v4] 26)) w.heap.size r v3 v4 := ⟨_, rfl, heap_new _ _ _ rfl⟩
end Go.Proofs.YtfhanoloaejmkaaDoor
end
section
namespace Go.Proofs.YtfhanoloaejmkaaDoor
open Go.Proofs.YtfhanoloaejmkaaDoor.Ref
set_option linter.unusedVariables false
theorem can_of {r : Rt} (h : rightR r = true) (u : ByteArray) (w : Bool) : canF r u w = (decide (u = r.o) || decide (u ∈ r.ws) || !w && decide (u ∈ r.rs)) := by
  unfold canF; rw [h, Bool.true_and]
theorem can_read {r : Rt} (h : rightR r = true) (u : ByteArray) : canF r u false = decide (u = r.o ∨ u ∈ r.rs ∨ u ∈ r.ws) := by
  rw [can_of h]
  by_cases a : u = r.o <;> by_cases b : u ∈ r.rs <;> by_cases c : u ∈ r.ws <;> simp [a, b, c]
theorem can_write {r : Rt} (h : rightR r = true) (u : ByteArray) : canF r u true = decide (u = r.o ∨ u ∈ r.ws) := by
  rw [can_of h]
  by_cases a : u = r.o <;> by_cases c : u ∈ r.ws <;> simp [a, c]
theorem can_bad {r : Rt} (h : rightR r = false) (u : ByteArray) (w : Bool) : canF r u w = false := by unfold canF; rw [h]; rfl
def putIn (r : Rt) (u : ByteArray) (w : Bool) : Rt := if w then ⟨r.o, r.f, r.e, r.rs, insL r.ws u⟩ else ⟨r.o, r.f, r.e, insL r.rs u, r.ws⟩
theorem grant_cases {r : Rt} (h : rightR r = true) {u : ByteArray} (hu : rightN (bytes u) = true) (w : Bool) :
    grantF r u w = if canF r u false = true then (noRt, 5) else if 5 ≤ r.rs.length + r.ws.length then (noRt, 10) else (putIn r u w, 0) := by
  unfold grantF putIn
  rw [if_neg (by rw [h]; simp), if_neg (by rw [hu]; simp), can_read h]
  by_cases c : u = r.o ∨ u ∈ r.rs ∨ u ∈ r.ws
  · rw [if_pos c, if_pos (by simpa using c)]
  · rw [if_neg c, if_neg (show ¬ decide (u = r.o ∨ u ∈ r.rs ∨ u ∈ r.ws) = true by simpa using c)]
theorem put_right {r : Rt} (h : rightR r = true) {u : ByteArray} (hu : rightN (bytes u) = true) (hc : canF r u false = false) (hl : r.rs.length + r.ws.length < 5) (w : Bool) : rightR (putIn r u w) = true := by
  rw [can_read h, decide_eq_false_iff_not] at hc
  obtain ⟨p1, p2, p3, p4, p5, p6, p7, p8, p9⟩ := right_parts h
  have n1 : u ≠ r.o := fun e => hc (Or.inl e)
  have n2 : u ∉ r.rs := fun e => hc (Or.inr (Or.inl e))
  have n3 : u ∉ r.ws := fun e => hc (Or.inr (Or.inr e))
  unfold putIn
  cases w with
  | true =>
    rw [if_pos rfl]
    refine right_mk p1 p2 p3 (by show r.rs.length + (insL r.ws u).length ≤ 5; rw [ins_len]; omega) p5 (ins_rises p6 n3) p7 (fun s hs => ?_) (fun s hs hs2 => ?_)
    · rcases mem_ins.1 hs with rfl | hs
      · exact ⟨hu, n1⟩
      · exact p8 s hs
    · rcases mem_ins.1 hs2 with rfl | hs2
      · exact n2 hs
      · exact p9 s hs hs2
  | false =>
    rw [if_neg (by simp)]
    refine right_mk p1 p2 p3 (by show (insL r.rs u).length + r.ws.length ≤ 5; rw [ins_len]; omega) (ins_rises p5 n2) p6 (fun s hs => ?_) p8 (fun s hs => ?_)
    · rcases mem_ins.1 hs with rfl | hs
      · exact ⟨hu, n1⟩
      · exact p7 s hs
    · rcases mem_ins.1 hs with rfl | hs
      · exact n3
      · exact p9 s hs
theorem put_mem {r : Rt} {u v : ByteArray} {w : Bool} : (v = (putIn r u w).o ↔ v = r.o) ∧ (v ∈ (putIn r u w).rs ↔ (w = false ∧ v = u) ∨ v ∈ r.rs) ∧ (v ∈ (putIn r u w).ws ↔ (w = true ∧ v = u) ∨ v ∈ r.ws) := by
  unfold putIn
  cases w with
  | true => rw [if_pos rfl]; exact ⟨Iff.rfl, by simp, by rw [mem_ins]; simp⟩
  | false => rw [if_neg (by simp)]; exact ⟨Iff.rfl, by rw [mem_ins]; simp, by simp⟩
theorem put_can {r : Rt} {u : ByteArray} {w : Bool} (h : rightR r = true) (h2 : rightR (putIn r u w) = true) (hc : canF r u false = false) :
    canF (putIn r u w) u false = true ∧ canF (putIn r u w) u true = w ∧ (putIn r u w).e = r.e ∧ (putIn r u w).o = r.o ∧ (putIn r u w).f = r.f ∧ ∀ v, v ≠ u → ∀ b, canF (putIn r u w) v b = canF r v b := by
  rw [can_read h, decide_eq_false_iff_not] at hc
  have n1 : u ≠ r.o := fun e => hc (Or.inl e)
  have n3 : u ∉ r.ws := fun e => hc (Or.inr (Or.inr e))
  refine ⟨?_, ?_, by unfold putIn; split <;> rfl, by unfold putIn; split <;> rfl, by unfold putIn; split <;> rfl, fun v hv b => ?_⟩
  · rw [can_read h2]
    refine decide_eq_true ?_
    cases w with
    | true => exact Or.inr (Or.inr (put_mem.2.2.2 (Or.inl ⟨rfl, rfl⟩)))
    | false => exact Or.inr (Or.inl (put_mem.2.1.2 (Or.inl ⟨rfl, rfl⟩)))
  · rw [can_write h2]
    cases w with
    | true => exact decide_eq_true (Or.inr (put_mem.2.2.2 (Or.inl ⟨rfl, rfl⟩)))
    | false =>
      refine decide_eq_false ?_
      rintro (e | e)
      · exact n1 (put_mem.1.1 e)
      · rcases put_mem.2.2.1 e with ⟨e, _⟩ | e
        · cases e
        · exact n3 e
  · have q1 : decide (v = (putIn r u w).o) = decide (v = r.o) := decide_eq_decide.2 put_mem.1
    have q2 : decide (v ∈ (putIn r u w).rs) = decide (v ∈ r.rs) := decide_eq_decide.2 (put_mem.2.1.trans ⟨fun e => e.resolve_left fun e => hv e.2, Or.inr⟩)
    have q3 : decide (v ∈ (putIn r u w).ws) = decide (v ∈ r.ws) := decide_eq_decide.2 (put_mem.2.2.trans ⟨fun e => e.resolve_left fun e => hv e.2, Or.inr⟩)
    rw [can_of h2, can_of h, q1, q2, q3]
def struck (r : Rt) (u : ByteArray) : Rt := ⟨r.o, r.f, r.e + 1, dropL r.rs u, dropL r.ws u⟩
theorem revoke_cases {r : Rt} (h : rightR r = true) {u : ByteArray} (hu : rightN (bytes u) = true) :
    revokeF r u = if canF r u false = true ∧ u ≠ r.o then (if r.e = 7 then (noRt, 9) else (struck r u, 0)) else (noRt, 4) := by
  obtain ⟨p1, p2, p3, p4, p5, p6, p7, p8, p9⟩ := right_parts h
  unfold revokeF struck
  rw [if_neg (by rw [h]; simp), if_neg (by rw [hu]; simp), can_read h]
  by_cases c : u ∈ r.rs ∨ u ∈ r.ws
  · have n : u ≠ r.o := c.elim (fun e => (p7 u e).2) (fun e => (p8 u e).2)
    rw [if_neg (fun e => e c), if_pos (show decide (u = r.o ∨ u ∈ r.rs ∨ u ∈ r.ws) = true ∧ u ≠ r.o from ⟨decide_eq_true (Or.inr c), n⟩)]
  · rw [if_pos c, if_neg]
    rintro ⟨e, n⟩
    rcases of_decide_eq_true e with e | e
    · exact n e
    · exact c e
theorem struck_right {r : Rt} (h : rightR r = true) (u : ByteArray) (h7 : r.e ≠ 7) : rightR (struck r u) = true := by
  obtain ⟨p1, p2, p3, p4, p5, p6, p7, p8, p9⟩ := right_parts h
  have l1 := drop_len r.rs u
  have l2 := drop_len r.ws u
  refine right_mk p1 p2 (by show 0 ≤ r.e + 1 ∧ r.e + 1 ≤ 7; omega) (by show (dropL r.rs u).length + (dropL r.ws u).length ≤ 5; omega) (drop_rises p5) (drop_rises p6) (fun s hs => p7 s (mem_drop.1 hs).1) (fun s hs => p8 s (mem_drop.1 hs).1) (fun s hs hs2 => p9 s (mem_drop.1 hs).1 (mem_drop.1 hs2).1)
theorem name_small {s : ByteArray} (h : rightN (bytes s) = true) : s.size ≤ 1000000 := by
  have := right_len h
  rw [bytes_length] at this; omega
theorem right_small {r : Rt} (h : rightR r = true) : smallR r = true := by
  obtain ⟨p1, p2, p3, p4, p5, p6, p7, p8, p9⟩ := right_parts h
  exact small_mk (name_small p1) (name_small p2) (by omega) (by omega) (by omega) (fun s hs => name_small (p7 s hs).1) (fun s hs => name_small (p8 s hs).1)
theorem small_no : smallR noRt = true := by decide +kernel
end Go.Proofs.YtfhanoloaejmkaaDoor
end
section
namespace Go.Proofs.YtfhanoloaejmkaaDoor
open Go.RowKit Go.Proofs.YtfhanoloaejmkaaDoorW.PrintWords Go.Proofs.YtfhanoloaejmkaaDoor.Ref
set_option linter.unusedVariables false
set_option linter.unusedSimpArgs false
def pickN (c : Int) (n : Nat) : Nat := if c < 0 then ((-(c + 1)).toNat) % n else c.toNat % n
theorem pick_lt (c : Int) {n : Nat} (h : 0 < n) : pickN c n < n := by unfold pickN; split <;> exact Nat.mod_lt _ h
theorem pick_call (c : Int) (n : Nat) (w : World) (h0 : 0 < n) (hn : n ≤ 1000000) (hc : -9223372036854775808 ≤ c ∧ c ≤ 9223372036854775807) :
    Calls Tryd.prog 13 #[.int .i64 c, .int .i64 n] w fun e w' => e = .returned (.int .i64 (pickN c n : Nat)) ∧ Below w.heap.size w w' := by
  refine (PA.letterlocklaw7_pick.calls c n _ w ?_).mono fun e w' h => ⟨h.1, ?_⟩
  · unfold PA.letterlocklaw7_pick.f pickN
    by_cases h : c < 0
    · rw [if_pos h, if_neg (by omega), if_pos h]
      rw [w64 (n := c + 1) (by omega) (by omega), w64 (n := -(c + 1)) (by omega) (by omega)]
      refine congrArg some ?_
      rw [Int.tmod_eq_emod_of_nonneg (by omega)]
      have : ((-(c + 1)).toNat : Int) = -(c + 1) := by omega
      rw [Int.natCast_emod, this]
    · rw [if_neg h, if_neg (by omega), if_neg h]
      refine congrArg some ?_
      rw [Int.tmod_eq_emod_of_nonneg (by omega)]
      have : (c.toNat : Int) = c := by omega
      rw [Int.natCast_emod, this]
  · have := h.2
    first | exact this | exact this.below
def names : List ByteArray := [⟨#[97, 110, 110, 97]⟩, ⟨#[98, 101, 110]⟩, ⟨#[99, 121]⟩, ⟨#[100, 111, 114, 97]⟩, ⟨#[101, 109, 105, 108]⟩, ⟨#[195, 164, 109, 105, 108]⟩, ⟨#[102, 97, 45, 49]⟩, ⟨#[103]⟩]
def whoF (c : Int) : ByteArray := nth names (pickN c 8)
theorem names_row (k : Nat) (hk : k < 8) : (#[Value.string { data := #[97, 110, 110, 97] }, Value.string { data := #[98, 101, 110] }, Value.string { data := #[99, 121] }, Value.string { data := #[100, 111, 114, 97] }, Value.string { data := #[101, 109, 105, 108] }, Value.string { data := #[195, 164, 109, 105, 108] }, Value.string { data := #[102, 97, 45, 49] }, Value.string { data := #[103] }] : Array Value)[k]? = some (.string (nth names k)) := by
  match k, hk with
  | 0, _ => rfl
  | 1, _ => rfl
  | 2, _ => rfl
  | 3, _ => rfl
  | 4, _ => rfl
  | 5, _ => rfl
  | 6, _ => rfl
  | 7, _ => rfl
  | k + 8, h => exact absurd h (by omega)
set_option maxHeartbeats 4000000 in
set_option maxRecDepth 100000 in
theorem who_call (c : Int) (w : World) (hc : -9223372036854775808 ≤ c ∧ c ≤ 9223372036854775807) :
    Calls Tryd.prog 12 #[.int .i64 c] w fun e w' => e = .returned (.string (whoF c)) ∧ Below w.heap.size w w' := by
  have hk := pick_lt c (n := 8) (by omega)
  have HP : Hid (∀ W : World, Calls Tryd.prog 13 #[.int .i64 c, .int .i64 8] W fun e w' => e = .returned (.int .i64 (pickN c 8 : Nat)) ∧ Below W.heap.size W w') := fun W => pick_call c 8 W (by omega) (by omega) hc
  unfold whoF
  generalize pickN c 8 = k at *
  obtain ⟨x, hx⟩ : ∃ x, nth names k = x := ⟨_, rfl⟩
  have HX := Lib.hid hx
  rw [hx]
  clear hx
  go_enter Tryd.func12, Tryd.ntmps12
  have hb0 : Below w.heap.size w (w.alloc (Obj.cells #[Value.string { data := #[97, 110, 110, 97] }, Value.string { data := #[98, 101, 110] }, Value.string { data := #[99, 121] }, Value.string { data := #[100, 111, 114, 97] }, Value.string { data := #[101, 109, 105, 108] }, Value.string { data := #[195, 164, 109, 105, 108] }, Value.string { data := #[102, 97, 45, 49] }, Value.string { data := #[103] }] 9)) := below_alloc (Below.refl _ _) _
  have hx0 : (w.alloc (Obj.cells #[Value.string { data := #[97, 110, 110, 97] }, Value.string { data := #[98, 101, 110] }, Value.string { data := #[99, 121] }, Value.string { data := #[100, 111, 114, 97] }, Value.string { data := #[101, 109, 105, 108] }, Value.string { data := #[195, 164, 109, 105, 108] }, Value.string { data := #[102, 97, 45, 49] }, Value.string { data := #[103] }] 9)).heap[w.heap.size]? = some (.cells #[Value.string { data := #[97, 110, 110, 97] }, Value.string { data := #[98, 101, 110] }, Value.string { data := #[99, 121] }, Value.string { data := #[100, 111, 114, 97] }, Value.string { data := #[101, 109, 105, 108] }, Value.string { data := #[195, 164, 109, 105, 108] }, Value.string { data := #[102, 97, 45, 49] }, Value.string { data := #[103] }] 9 (0, 0)) := heap_new _ _ _ rfl
  have HB0 := Lib.hid hb0
  have HX0 := Lib.hid hx0
  clear hb0 hx0
  go_wp2_with fail
  refine (HP.out _).mono ?_
  rintro e w1 ⟨rfl, hb⟩
  have HB1 := Lib.hid (below_step HB0.out hb)
  have hck : w1.cell? ⟨w.heap.size, k, none⟩ = some (.string x) := by
    rw [blk_cell (blk_below HX0.out hb) k]
    rw [← HX.out]
    exact names_row k hk
  clear hb HB0 HX0 HP
  go_wp2
  go_ret
  exact ⟨rfl, HB1.out⟩
def anna : ByteArray := ⟨#[97, 110, 110, 97]⟩
def notes : ByteArray := ⟨#[110, 111, 116, 101, 115]⟩
def ben : ByteArray := ⟨#[98, 101, 110]⟩
def r0 : Rt := ⟨anna, notes, 0, [], []⟩
theorem new0 : newF anna notes = (r0, 0) := by
  have h1 : rightN (bytes anna) = true := by decide +kernel
  have h2 : rightN (bytes notes) = true := by decide +kernel
  unfold newF
  rw [h1, h2]; rfl
theorem right0 : rightR r0 = true := by decide +kernel
theorem small0 : smallR r0 = true := by decide +kernel
theorem nameben : rightN (bytes ben) = true := by decide +kernel
def r1 : Rt := ⟨anna, notes, 0, [ben], []⟩
theorem grant0 : grantF r0 ben false = (r1, 0) := by
  unfold grantF
  rw [if_neg (by rw [right0]; simp), if_neg (by rw [nameben]; simp), if_neg (by decide), if_neg (by decide)]
  rfl
theorem right1 : rightR r1 = true := by decide +kernel
theorem small1 : smallR r1 = true := by decide +kernel
theorem can1 : canF r1 ben false = true := by unfold canF; rw [right1]; decide
theorem can2 : canF r1 ben true = false := by unfold canF; rw [right1]; decide
theorem can3 : canF r1 anna true = true := by unfold canF; rw [right1]; decide
set_option maxHeartbeats 4000000 in
set_option maxRecDepth 100000 in
theorem shown_call (w : World) (HTB : Aside0 (Tabs w)) : Calls Tryd.prog 10 #[] w fun e w' => e = .returned (.bool true) ∧ Below w.heap.size w w' := by
  have H1 := Lib.hid (new_call anna notes w HTB (by decide +kernel) (by decide +kernel))
  rw [new0] at H1
  go_enter Tryd.func10, Tryd.ntmps10
  go_wp2_with fail
  refine H1.out.mono ?_
  rintro e w1 ⟨A1, c1, A2, c2, rfl, hr1, hb1⟩
  have hb1' := below_alloc hb1 (Obj.cells #[Value.string r0.o, Value.string r0.f, Value.int IntKind.i64 r0.e, .slice A1 r0.rs.length c1, .slice A2 r0.ws.length c2] 26)
  have H2 := Lib.hid (grant_call r0 ben false A1 c1 A2 c2 _ ⟨HTB.out.below hb1'⟩ small0 (by decide +kernel) (hr1.below (below_alloc (Below.refl _ _) (Obj.cells #[Value.string r0.o, Value.string r0.f, Value.int IntKind.i64 r0.e, .slice A1 r0.rs.length c1, .slice A2 r0.ws.length c2] 26))))
  rw [grant0] at H2
  have HB1 := Lib.hid hb1'
  clear hr1 hb1 hb1' H1
  go_wp2_with fail
  refine H2.out.mono ?_
  rintro e w2 ⟨A3, c3, A4, c4, rfl, hr2, hb2⟩
  have hbx : Below w2.heap.size w2 (w2.alloc (Obj.cells #[Value.string r1.o, Value.string r1.f, Value.int IntKind.i64 r1.e, .slice A3 r1.rs.length c3, .slice A4 r1.ws.length c4] 26)) := below_alloc (Below.refl _ _) _
  have hx := box_new w2 r1 (.slice A3 r1.rs.length c3) (.slice A4 r1.ws.length c4)
  have HB2 := Lib.hid (below_step (below_step HB1.out hb2) hbx)
  have HR2 := Lib.hid (hr2.below hbx)
  have HX2 := Lib.hid hx
  clear hb2 hr2 H2 HB1 hbx hx
  have H3 := Lib.hid (can_call r1 ben false A3 c3 A4 c4 _ ⟨HTB.out.below HB2.out⟩ small1 HR2.out)
  rw [can1] at H3
  go_wp2_with fail
  refine H3.out.mono ?_
  rintro e w3 ⟨rfl, hb⟩
  have HB3 := Lib.hid (below_step HB2.out hb)
  have HR3 := Lib.hid (HR2.out.below hb)
  have HX3 := Lib.hid (HX2.out.below hb)
  clear hb HB2 HR2 HX2 H3
  obtain ⟨x0, x1, x2, x3, x4⟩ := HX3.out.cell
  have H4 := Lib.hid (can_call r1 ben true A3 c3 A4 c4 w3 ⟨HTB.out.below HB3.out⟩ small1 HR3.out)
  rw [can2] at H4
  go_wp2_with fail
  refine H4.out.mono ?_
  rintro e w4 ⟨rfl, hb⟩
  have HB4 := Lib.hid (below_step HB3.out hb)
  have HR4 := Lib.hid (HR3.out.below hb)
  have HX4 := Lib.hid (HX3.out.below hb)
  clear hb HB3 HR3 HX3 H4 x0 x1 x2 x3 x4
  obtain ⟨x0, x1, x2, x3, x4⟩ := HX4.out.cell
  have H5 := Lib.hid (can_call r1 anna true A3 c3 A4 c4 w4 ⟨HTB.out.below HB4.out⟩ small1 HR4.out)
  rw [can3] at H5
  go_wp2_with fail
  refine H5.out.mono ?_
  rintro e w5 ⟨rfl, hb⟩
  have HB5 := Lib.hid (below_step HB4.out hb)
  clear hb HB4 HR4 HX4 H5 x0 x1 x2 x3 x4
  go_wp2
  go_ret
  exact ⟨rfl, HB5.out⟩
end Go.Proofs.YtfhanoloaejmkaaDoor
end
section
namespace Go.Proofs.YtfhanoloaejmkaaDoor
open Go.ChangeShapes Go.WideShapes Go.RowKit Go.Deep Go.Proofs.YtfhanoloaejmkaaDoorW.PrintWords
set_option linter.unusedVariables false
def Opens {α : Type} (P : Program) (t : TypeId) (d : Kd α) (good : α → Prop) : Prop :=
  ∀ (H : Type) (enc : TypeId × Value → H) (W : World) (fuel : Nat) (cs : List Value) (x : DataW H × List MemPlace), DataW.trod enc P W 0 (fun _ => true) true fuel t cs = some x → ∃ a, d.K W a cs ∧ good a
theorem Opens.int {P : Program} {t : TypeId} {k : IntKind} (ht : P.underlying t = some (.int k)) : Opens P t (Kd.int k) (fun n => (Lit.int k n).wf = true) := by
  intro H enc W fuel cs x h
  obtain ⟨n, rfl, _, hn⟩ := DataW.trod_int ht h
  exact ⟨n, rfl, hn⟩
theorem Opens.bool {P : Program} {t : TypeId} (ht : P.underlying t = some .bool) : Opens P t Kd.bool (fun _ => True) := by
  intro H enc W fuel cs x h
  obtain ⟨b, rfl, _⟩ := DataW.trod_bool ht h
  exact ⟨b, rfl, trivial⟩
theorem Opens.string {P : Program} {t : TypeId} (ht : P.underlying t = some .string) : Opens P t Kd.string (fun s => s.size ≤ 9223372036854775807) := by
  intro H enc W fuel cs x h
  obtain ⟨s, rfl, _, hs⟩ := DataW.trod_string ht h
  exact ⟨s, rfl, hs⟩
theorem Opens.slice {α : Type} [Inhabited α] {P : Program} {t e : TypeId} {d : Kd α} {good : α → Prop} (ht : P.underlying t = some (.slice e)) (hc : P.cellsOf e = d.sz) (he : Opens P e d good) (q : Nat) :
    Opens P t (Kd.slice q d) (fun xs => xs.length ≤ 9223372036854775807 ∧ ∀ x ∈ xs, good x) := by
  intro H enc W fuel cs x h
  rcases open_slice ht h with ⟨rfl, _⟩ | ⟨a, len, cap, m, n, D, Pl, rfl, hb, hl, hm, hmm, rfl, hx⟩
  · exact ⟨[], ⟨none, 0, rfl, Nat.le_refl _, rfl, Nat.zero_le _, fun h => absurd h (Nat.lt_irrefl _)⟩, Nat.zero_le _, fun _ h => absurd h (by simp)⟩
  have hml : len ≤ m := by rw [hmm]; split <;> omega
  have hm' : cap ≤ 9223372036854775807 := hm
  have each : ∀ i, i < len → ∃ y : α, (∃ c, c.length = d.sz ∧ d.K W y c ∧ ∀ j u, c[j]? = some u → W.cell? (a.add (i * d.sz + j)) = some u) ∧ good y := by
    intro i hi
    obtain ⟨cs', h1, h2⟩ := hx i (by omega)
    obtain ⟨y, hy, hg⟩ := he H enc W n cs' _ h2
    obtain ⟨_, hlen, hcell⟩ := World.cells?_some h1
    refine ⟨y, ⟨cs', d.K_len hy, hy, fun j u hj => ?_⟩, hg⟩
    have hjl : j < cs'.length := by
      by_cases hjl : j < cs'.length
      · exact hjl
      · rw [List.getElem?_eq_none (by omega)] at hj; simp at hj
    have := hcell j (by rw [hlen] at hjl; exact hjl)
    rw [Deep.add_add, hc] at this
    rw [this, hj]
  obtain ⟨Y, hY⟩ := choose_lt each
  refine ⟨(List.range len).map Y, ⟨some a, cap, by simp, by simpa using hl, by simp, by simp; omega, fun _ => ⟨a, rfl, fun j p hj => ?_⟩⟩, by simp; omega, fun z hz => ?_⟩
  · have hjl : j < len := by
      by_cases hjl : j < len
      · exact hjl
      · rw [List.getElem?_eq_none (by simp; omega)] at hj; simp at hj
    have : p = Y j := by simpa [hjl] using hj.symm
    rw [this]
    exact (hY j hjl).1
  · obtain ⟨j, hj, rfl⟩ := List.mem_map.1 hz
    exact (hY j (List.mem_range.1 hj)).2
theorem Opens.arg {α : Type} {H : Type} {enc : TypeId × Value → H} {P : Program} {W : World} {t : TypeId} {v : Value} {d : DataW H} {ps : List MemPlace} {kd : Kd α} {good : α → Prop} (ho : Opens P t kd good)
    (h : DataW.Trod enc P W 0 (fun _ => true) true t v d ps) : ∃ a, kd.K W a v.cells.toList ∧ good a := by
  obtain ⟨fuel, hf⟩ := h
  exact ho H enc W fuel _ _ hf
theorem Opens.slice_arg {α : Type} {H : Type} {enc : TypeId × Value → H} {P : Program} {W : World} {t : TypeId} {A : Option Addr} {len cap : Nat} {d : DataW H} {ps : List MemPlace} {q : Nat} {kd : Kd α} {good : List α → Prop}
    (ho : Opens P t (Kd.slice q kd) good) (h : DataW.Trod enc P W 0 (fun _ => true) true t (.slice A len cap) d ps) : ∃ xs : List α, xs.length = len ∧ len ≤ cap ∧ kd.C W A xs.length xs ∧ good xs := by
  obtain ⟨xs, ⟨A', c, hcs, hl, hC⟩, hg⟩ := ho.arg h
  simp only [Value.cells, List.cons.injEq, and_true, Value.slice.injEq] at hcs
  obtain ⟨rfl, rfl, rfl⟩ := hcs
  exact ⟨xs, rfl, hl, hC, hg⟩
end Go.Proofs.YtfhanoloaejmkaaDoor
end
section
namespace Go.Proofs.YtfhanoloaejmkaaDoor
open Go.ChangeShapes Go.WideShapes Go.RowKit Go.Deep Go.Proofs.YtfhanoloaejmkaaDoorW.PrintWords
set_option linter.unusedVariables false
theorem Opens.pair2 {α β : Type} {P : Program} {t : TypeId} {f0 f1 : Field} {a : Kd α} {b : Kd β} {ga : α → Prop} {gb : β → Prop} (ht : P.underlying t = some (.struct #[f0, f1])) (h0 : f0.offset = 0) (c0 : P.cellsOf f0.type = a.sz)
    (h1 : f1.offset = a.sz) (c1 : P.cellsOf f1.type = b.sz) (hs : P.cellsOf t = a.sz + b.sz) (oa : Opens P f0.type a ga) (ob : Opens P f1.type b gb) : Opens P t (Kd.pair a b) (fun x => ga x.1 ∧ gb x.2) := by
  intro H enc W fuel cs x h
  obtain ⟨y0, y1, n, rfl, hl, e0, e1⟩ := trod_struct2 ht h
  obtain ⟨p, hp, gp⟩ := oa H enc W n _ _ e0
  obtain ⟨q, hq, gq⟩ := ob H enc W n _ _ e1
  refine ⟨(p, q), ⟨_, _, ?_, hp, hq⟩, gp, gq⟩
  rw [h0, c0, h1, c1, List.drop_zero]
  have : (cs.drop a.sz).take b.sz = cs.drop a.sz := List.take_of_length_le (by rw [List.length_drop]; omega)
  rw [this, List.take_append_drop]
theorem i64_wf {n : Int} (h : (Lit.int .i64 n).wf = true) : -9223372036854775808 ≤ n ∧ n ≤ 9223372036854775807 := by
  simpa [Lit.wf, show IntKind.i64.min = -9223372036854775808 from rfl] using h
abbrev actK : Kd (Int × Int) := Kd.pair (Kd.int .i64) (Kd.int .i64)
def actOk (a : Int × Int) : Prop := (-9223372036854775808 ≤ a.1 ∧ a.1 ≤ 9223372036854775807) ∧ (-9223372036854775808 ≤ a.2 ∧ a.2 ≤ 9223372036854775807)
theorem acts_ok {l : List (Int × Int)} (h : ∀ a ∈ l, (Lit.int .i64 a.1).wf = true ∧ (Lit.int .i64 a.2).wf = true) : ∀ a ∈ l, actOk a := fun a ha => ⟨i64_wf (h a ha).1, i64_wf (h a ha).2⟩
theorem actC {w : World} {A : Option Addr} {l : List (Int × Int)} (h : Kd.C actK w A l.length l) {k : Nat} (hk : k < l.length) :
    ∃ ad, A = some ad ∧ w.cell? (ad.add (k * 2)) = some (.int .i64 (l[k]).1) ∧ w.cell? ⟨(ad.add (k * 2)).block, (ad.add (k * 2)).off + 1, none⟩ = some (.int .i64 (l[k]).2) := by
  obtain ⟨ad, rfl, hc⟩ := h.2.2 (by omega)
  obtain ⟨cs, hl, ⟨c0, c1, rfl, h0, h1⟩, hz⟩ := hc k l[k] (List.getElem?_eq_getElem hk)
  obtain rfl : c0 = [.int .i64 (l[k]).1] := h0
  obtain rfl : c1 = [.int .i64 (l[k]).2] := h1
  refine ⟨ad, rfl, hz 0 _ rfl, ?_⟩
  have := hz 1 _ rfl
  rwa [add_field _ _ 1 (by omega)] at this
theorem acts_open : Opens Tryd.prog 22 (Kd.slice 32 actK) (fun l => l.length ≤ 9223372036854775807 ∧ ∀ a ∈ l, (Lit.int .i64 a.1).wf = true ∧ (Lit.int .i64 a.2).wf = true) :=
  Opens.slice Tryd.underlying22 (by kernel_rfl) (Opens.pair2 (t := 32) (f0 := ⟨"Op", 3, 0, false, "", "", 0⟩) (f1 := ⟨"Who", 3, 1, false, "", "", 8⟩) (by kernel_rfl) rfl (by kernel_rfl) rfl (by kernel_rfl) (by kernel_rfl) (Opens.int (k := .i64) (by kernel_rfl)) (Opens.int (k := .i64) (by kernel_rfl))) _
end Go.Proofs.YtfhanoloaejmkaaDoor
end
end
section

namespace Go.Proofs.YtfhanoloaejmkaaDoor.Ref
open Go.RowKit Go.Proofs.YtfhanoloaejmkaaDoor Go.Proofs.YtfhanoloaejmkaaDoor.PA Go.Proofs.YtfhanoloaejmkaaDoorW.PrintWords Go.Proofs.YtfhanoloaejmkaaDoorW.PrintLast
set_option linter.unusedVariables false
theorem nums_of (l : List Int) : strOfNums l = ofBytes (l.map fun n => UInt8.ofNat n.toNat) := bs_inj (by rw [nums_bytes, bytes_ofBytes])
theorem u8_mod (n : Nat) : UInt8.ofNat (n % 256) = UInt8.ofNat n := UInt8.toNat_inj.1 (by rw [UInt8.toNat_ofNat', UInt8.toNat_ofNat']; omega)
theorem beBytes_bits {n : Nat} (h : n < 18446744073709551616) : (beBytes n).length = (Lib.bitLen n + 7) / 8 := by
  induction n using Nat.strongRecOn with
  | _ n ih =>
    by_cases h0 : n = 0
    · subst h0
      rw [beBytes_zero]
      rfl
    by_cases h1 : n < 256
    · have h2 := Lib.bitLen_le8 ⟨n, h1⟩
      have h3 := Lib.bitLen_half n h0 (by omega)
      have h2 : Lib.bitLen n ≤ 8 := h2
      rw [beBytes_pos h0, show n / 256 = 0 from by omega, beBytes_zero]
      simp only [List.nil_append, List.length_singleton]
      omega
    · have h2 := Lib.bitLen_shift8 n (by omega) h
      have h3 := ih (n / 256) (by omega) (by omega)
      rw [beBytes_pos h0, List.length_append, h3, List.length_singleton]
      omega
theorem put_loop (i x : Nat) (h : Int) (zs tl : List Int) (hz : zs.length = i) (hx : (beBytes x).length = i) (hi : i ≤ 8) :
    Ev (fun k => wire_Put.l0 k (x : Int) (h :: (zs ++ tl)) (i : Int)) (strOfNums (h :: ((beBytes x).map (fun c => (c.toNat : Int)) ++ tl))) := by
  induction i generalizing x zs tl with
  | zero =>
    obtain rfl := List.length_eq_zero_iff.1 hz
    have : beBytes x = [] := List.length_eq_zero_iff.1 hx
    rw [this]
    refine Ev.step (fun _ => rfl) (Ev.neg (by simp) (Ev.now _))
  | succ i ih =>
    have hx0 : x ≠ 0 := by rintro rfl; rw [beBytes_zero] at hx; simp at hx
    rw [beBytes_pos hx0] at hx
    simp only [List.length_append, List.length_singleton, Nat.add_right_cancel_iff] at hx
    obtain ⟨ys, z, rfl⟩ : ∃ ys z, zs = ys ++ [z] := ⟨zs.dropLast, zs.getLast (by rintro rfl; simp at hz), (List.dropLast_concat_getLast _).symm⟩
    simp only [List.length_append, List.length_singleton, Nat.add_right_cancel_iff] at hz
    refine Ev.step (fun _ => rfl) (Ev.pos (by omega) (Ev.pos (by omega) (Ev.pos (by simp only [List.length_cons, List.length_append, hz]; omega) ?_)))
    have h1 : (h :: (ys ++ [z] ++ tl)).set (((i + 1 : Nat) : Int)).toNat ((x : Int) % 256) = h :: (ys ++ ((x : Int) % 256 :: tl)) := by
      rw [Int.toNat_natCast, List.set_cons_succ, List.append_assoc, List.set_append_right _ _ (by omega), hz, Nat.sub_self]
      rfl
    have h2 : wrap64 (((i + 1 : Nat) : Int) - 1) = (i : Int) := by rw [w64 (by omega) (by omega)]; omega
    rw [h1, h2]
    refine ev_cast (ih (x / 256) ys ((x : Int) % 256 :: tl) hz hx (by omega)) ?_
    rw [beBytes_pos hx0, List.map_append, List.append_assoc]
    congr 3
    simp only [List.map_cons, List.map_nil, List.singleton_append, toNat_mod]
    congr 1
theorem ofNat_map (l : Bs) : (l.map (fun c => (c.toNat : Int))).map (fun n => UInt8.ofNat n.toNat) = l := by
  rw [List.map_map]
  conv => rhs; rw [← List.map_id l]
  congr 1
  funext c
  simp [UInt8.ofNat_toNat]
theorem wirePut_ev (n : Nat) (h : n < 18446744073709551616) : Ev (fun k => wire_Put.f k (n : Int)) (ofBytes (putL n)) := by
  have hb := beBytes_bits h
  have h8 := beBytes_len8 h
  have hl : bits_Len64.f (n : Int) = some ((Lib.bitLen n : Nat) : Int) := by
    unfold bits_Len64.f
    rw [if_pos ⟨by omega, by omega⟩, Int.toNat_natCast]
  have h1 : wrap64 (Int.tdiv (wrap64 (((Lib.bitLen n : Nat) : Int) + 7)) 8) = ((beBytes n).length : Int) := by
    rw [w64 (n := ((Lib.bitLen n : Nat) : Int) + 7) (by omega) (by omega), Int.tdiv_eq_ediv_of_nonneg (by omega), hb]
    rw [w64 (by omega) (by omega)]
    omega
  unfold wire_Put.f
  refine Ev.put hl ?_
  rw [h1, w64 (n := 1 + ((beBytes n).length : Int)) (by omega) (by omega)]
  refine Ev.pos (by omega) (Ev.pos (by omega) (Ev.put rfl (Ev.pos (by rw [List.length_replicate]; omega) ?_)))
  rw [show (1 + ((beBytes n).length : Int)).toNat = (beBytes n).length + 1 from by omega, List.replicate_succ]
  have h2 := put_loop (beBytes n).length n (((beBytes n).length : Int) % 256) (List.replicate (beBytes n).length 0) [] (by simp) rfl h8
  rw [List.append_nil] at h2
  refine ev_cast h2 ?_
  rw [nums_of, List.append_nil, List.map_cons, ofNat_map]
  unfold putL
  clear h2 h1 hl
  congr 2
  rw [show (((beBytes n).length : Int) % 256).toNat = (beBytes n).length % 256 from by omega]
  exact u8_mod _
def numB (n : Nat) : ByteArray := ofBytes (putL n)
theorem size_numB {n : Nat} (h : n < 18446744073709551616) : (numB n).size ≤ 9 := by
  unfold numB; rw [size_ofBytes]; exact putL_len h
theorem joinB_two (a b : ByteArray) : joinB [a, b] = a ++ b := by
  unfold joinB
  simp only [List.flatMap_cons, List.flatMap_nil, List.append_nil]
  rw [ofBytes_append, ofBytes_bytes, ofBytes_bytes]
theorem putText_ev (s : ByteArray) (h : s.size ≤ 100000000000000) : Ev (fun k => wire_PutText.f k s) (numB s.size ++ s) := by
  have hw : IntKind.u64.wrap (s.size : Int) = (s.size : Int) := by rw [IntKind.wrap_u64]; omega
  unfold wire_PutText.f
  rw [hw]
  refine Ev.bind (wirePut_ev s.size (by omega)) (Ev.put (a := numB s.size ++ s) ?_ (Ev.now _))
  have := size_numB (n := s.size) (by omega)
  show wire_join.f [numB s.size, s] = _
  unfold wire_join.f
  rw [if_pos ⟨by simp, by rw [joinB_two, ByteArray.size_append]; omega⟩, joinB_two]
end Go.Proofs.YtfhanoloaejmkaaDoor.Ref
end
section

namespace Go.Proofs.YtfhanoloaejmkaaDoor.Ref
open Go.RowKit Go.Proofs.YtfhanoloaejmkaaDoor Go.Proofs.YtfhanoloaejmkaaDoor.PA Go.Proofs.YtfhanoloaejmkaaDoorW.PrintWords Go.Proofs.YtfhanoloaejmkaaDoorW.PrintLast
set_option linter.unusedVariables false
def catT (l : List ByteArray) : ByteArray := ofBytes (l.flatMap fun s => putT (bytes s))
def allB (l : List ByteArray) : ByteArray := numB l.length ++ catT l
theorem catT_cons (s : ByteArray) (l : List ByteArray) : catT (s :: l) = (numB s.size ++ s) ++ catT l := by
  refine bs_inj ?_
  unfold catT numB putT
  rw [bytes_append, bytes_append, bytes_ofBytes, bytes_ofBytes, bytes_ofBytes, List.flatMap_cons, bytes_length]
theorem catT_nil : catT [] = ⟨#[]⟩ := rfl
theorem catT_size (l : List ByteArray) (h : ∀ s ∈ l, s.size ≤ 100000000000) : (catT l).size ≤ l.length * 100000000009 := by
  induction l with
  | nil => exact Nat.le_refl _
  | cons s l ih =>
    have h1 := h s List.mem_cons_self
    have h2 := size_numB (n := s.size) (by omega)
    have h3 := ih fun x hx => h x (List.mem_cons_of_mem _ hx)
    rw [catT_cons, ByteArray.size_append, ByteArray.size_append, List.length_cons]
    omega
theorem joinB_cons (a : ByteArray) (l : List ByteArray) : joinB (a :: l) = a ++ joinB l := by
  refine bs_inj ?_
  unfold joinB
  rw [bytes_append, bytes_ofBytes, bytes_ofBytes, List.flatMap_cons]
theorem joinB_texts (l : List ByteArray) : joinB (l.map fun s => numB s.size ++ s) = catT l := by
  induction l with
  | nil => rfl
  | cons s l ih => rw [List.map_cons, joinB_cons, ih, catT_cons]
theorem putAll_loop (l : List ByteArray) (hl : l.length ≤ 1000) (hs : ∀ s ∈ l, s.size ≤ 100000000000) (m i : Nat) (hm : i + m = l.length) (h0 : ByteArray) (hz : h0.size ≤ 9) :
    Ev (fun k => wire_PutAll.l0 k (h0 :: (l.take i).map fun s => numB s.size ++ s) l (l.length : Int) (i : Int)) (h0 ++ catT l) := by
  induction m generalizing i with
  | zero =>
    rw [List.take_of_length_le (by omega)]
    refine Ev.step (fun _ => rfl) (Ev.neg (by omega) (Ev.put (a := h0 ++ catT l) ?_ (Ev.now _)))
    have h1 := catT_size l hs
    have h2 : l.length * 100000000009 ≤ 1000 * 100000000009 := Nat.mul_le_mul_right _ hl
    unfold wire_join.f
    rw [if_pos ⟨by simp; omega, by rw [joinB_cons, joinB_texts, ByteArray.size_append]; omega⟩, joinB_cons, joinB_texts]
  | succ m ih =>
    have hi : i < l.length := by omega
    have hz := hs l[i] (List.getElem_mem hi)
    refine Ev.step (fun _ => rfl) (Ev.pos (by omega) (Ev.pos (by omega) (Ev.pos (by omega) ?_)))
    have hr : rdOf ByteArray.empty l (i : Int) = l[i] := by
      unfold rdOf; rw [Int.toNat_natCast, List.getD_eq_getElem?_getD, List.getElem?_eq_getElem hi]; rfl
    rw [hr]
    refine Ev.bind (putText_ev l[i] (by omega)) (Ev.pos (by simp; omega) ?_)
    rw [w64 (n := (i : Int) + 1) (by omega) (by omega)]
    have := ih (i + 1) (by omega)
    rw [List.take_succ_eq_append_getElem hi, List.map_append] at this
    exact this
theorem putAll_ev (l : List ByteArray) (hl : l.length ≤ 1000) (hs : ∀ s ∈ l, s.size ≤ 100000000000) : Ev (fun k => wire_PutAll.f k l) (allB l) := by
  have hw : IntKind.u64.wrap (l.length : Int) = (l.length : Int) := by rw [IntKind.wrap_u64]; omega
  unfold wire_PutAll.f allB
  rw [hw]
  exact Ev.bind (wirePut_ev l.length (by omega)) (putAll_loop l hl hs l.length 0 (by omega) _ (size_numB (by omega)))
def takeGo (most : Nat) : Nat → ByteArray → List ByteArray → List ByteArray × Int
  | 0, s, acc => if s.toList = [] then (acc, 0) else ([], 2)
  | n + 1, s, acc => if (takeTextF most s).2.2 = 0 then takeGo most n (takeTextF most s).2.1 (acc ++ [(takeTextF most s).1]) else ([], (takeTextF most s).2.2)
def takeAllF (many most : Nat) (s : ByteArray) : List ByteArray × Int :=
  if (takeF s).2.2 = 0 then (if (takeF s).1 > (many : Int) then ([], 10) else takeGo most (takeF s).1.toNat (takeF s).2.1 []) else ([], (takeF s).2.2)
theorem takeText_size (most : Nat) (s : ByteArray) : (takeTextF most s).2.1.size ≤ s.size := by
  unfold takeTextF
  cases h : takeL (bytes s) with
  | none => exact Nat.zero_le _
  | some x =>
    obtain ⟨n, r⟩ := x
    have h1 := congrArg List.length (take_inv h).1
    rw [bytes_length, List.length_append] at h1
    simp only
    split
    · exact Nat.zero_le _
    · split
      · exact Nat.zero_le _
      · rw [size_ofBytes, List.length_drop]; omega
theorem takeF_size (s : ByteArray) : (takeF s).2.1.size ≤ s.size ∧ 0 ≤ (takeF s).1 ∧ (takeF s).1 < 18446744073709551616 := by
  unfold takeF
  cases h : takeL (bytes s) with
  | none => exact ⟨Nat.zero_le _, by simp, by simp⟩
  | some x =>
    obtain ⟨n, r⟩ := x
    have h1 := congrArg List.length (take_inv h).1
    have h2 := (take_inv h).2
    rw [bytes_length, List.length_append] at h1
    simp only
    rw [size_ofBytes]
    omega
theorem limited_val (most : Nat) (s : ByteArray) (h : s.size ≤ 1000000) (hm : most ≤ 1000000) : wire_limited.f s (most : Int) = some (limitedF most s) := by
  unfold wire_limited.f
  rw [if_pos ⟨by omega, by omega, by omega⟩, Int.toNat_natCast]
theorem limited_take (most : Nat) (s : ByteArray) : limitedF most s = if (takeF s).2.2 = 0 then (if (takeF s).1 > (most : Int) then (0, ⟨#[]⟩, 10) else takeF s) else (0, ⟨#[]⟩, (takeF s).2.2) := by
  unfold limitedF takeF
  cases takeL (bytes s) with
  | none => rfl
  | some x =>
    obtain ⟨n, r⟩ := x
    simp only
    rw [if_pos trivial]
    by_cases h : most < n
    · rw [if_pos h, if_pos (by omega)]
    · rw [if_neg h, if_neg (by omega)]
theorem takeAll_loop (most : Nat) (hm : most ≤ 1000000) (n : Nat) (hn : n ≤ 1000) (m i : Nat) (hi : i + m = n) (s : ByteArray) (acc : List ByteArray) (hs : s.size ≤ 1000000) (ha : acc.length = i) :
    Ev (fun k => wire_TakeAll.l0 k (most : Int) s acc (n : Int) (i : Int)) (takeGo most m s acc) := by
  induction m generalizing i s acc with
  | zero =>
    refine Ev.step (fun _ => rfl) (Ev.neg (by omega) ?_)
    unfold takeGo
    by_cases h : s.toList = ([] : List UInt8)
    · simp only [if_pos h]; exact Ev.now _
    · simp only [if_neg h]; exact Ev.now _
  | succ m ih =>
    have hz := takeText_size most s
    refine Ev.step (fun _ => rfl) (Ev.pos (by omega) ?_)
    have hv : wire_TakeText.f s (most : Int) = some (takeTextF most s) := by
      unfold wire_TakeText.f
      rw [if_pos ⟨by omega, by omega, by omega⟩, Int.toNat_natCast]
    refine Ev.put hv ?_
    rw [takeGo]
    by_cases h : (takeTextF most s).2.2 = 0
    · rw [if_pos h]
      refine Ev.pos h (Ev.pos (by omega) ?_)
      rw [w64 (n := (i : Int) + 1) (by omega) (by omega)]
      exact ih (i + 1) (by omega) _ _ (by omega) (by simp; omega)
    · rw [if_neg h]
      exact Ev.neg h (Ev.now _)
theorem takeAll_ev (many most : Nat) (s : ByteArray) (hmn : many ≤ 1000) (hm : most ≤ 1000000) (hs : s.size ≤ 1000000) : Ev (fun k => wire_TakeAll.f k s (many : Int) (most : Int)) (takeAllF many most s) := by
  have hz := takeF_size s
  unfold wire_TakeAll.f takeAllF
  refine Ev.put (limited_val many s hs (by omega)) ?_
  rw [limited_take]
  by_cases h : (takeF s).2.2 = 0
  · rw [if_pos h, if_pos h]
    by_cases h2 : (takeF s).1 > (many : Int)
    · rw [if_pos h2, if_pos h2]
      exact Ev.neg (by simp) (Ev.now _)
    · rw [if_neg h2, if_neg h2]
      refine Ev.pos h ?_
      have e : (takeF s).1 = (((takeF s).1.toNat : Nat) : Int) := by omega
      have := takeAll_loop most hm (takeF s).1.toNat (by omega) (takeF s).1.toNat 0 (by omega) (takeF s).2.1 [] (by omega) rfl
      rw [← e] at this
      exact this
  · rw [if_neg h, if_neg h]
    exact Ev.neg h (Ev.now _)
theorem takeText_put {most : Nat} {s : ByteArray} (h : s.size ≤ most) (hm : most ≤ 1000000) (r : ByteArray) : takeTextF most ((numB s.size ++ s) ++ r) = (s, r, 0) := by
  unfold takeTextF
  have e : bytes ((numB s.size ++ s) ++ r) = putL s.size ++ (bytes s ++ bytes r) := by
    rw [bytes_append, bytes_append]; unfold numB; rw [bytes_ofBytes, List.append_assoc]
  rw [e, take_put (by omega)]
  simp only
  rw [if_neg (by omega), if_neg (by rw [List.length_append, bytes_length]; omega), List.take_append_of_le_length (by rw [bytes_length]; exact Nat.le_refl _), List.drop_append_of_le_length (by rw [bytes_length]; exact Nat.le_refl _)]
  rw [List.take_of_length_le (by rw [bytes_length]; exact Nat.le_refl _), List.drop_eq_nil_of_le (by rw [bytes_length]; exact Nat.le_refl _), List.nil_append, ofBytes_bytes, ofBytes_bytes]
theorem takeText_inv {most : Nat} {s t r : ByteArray} (h : takeTextF most s = (t, r, 0)) : s = (numB t.size ++ t) ++ r ∧ t.size ≤ most := by
  unfold takeTextF at h
  cases ht : takeL (bytes s) with
  | none => rw [ht] at h; simp at h
  | some x =>
    obtain ⟨n, q⟩ := x
    rw [ht] at h
    simp only at h
    by_cases h1 : most < n
    · rw [if_pos h1] at h; simp at h
    rw [if_neg h1] at h
    by_cases h2 : q.length < n
    · rw [if_pos h2] at h; simp at h
    rw [if_neg h2] at h
    simp only [Prod.mk.injEq, and_true] at h
    obtain ⟨rfl, rfl⟩ := h
    have h3 := (take_inv ht).1
    have hl : (ofBytes (q.take n)).size = n := by rw [size_ofBytes, List.length_take]; omega
    refine ⟨bs_inj ?_, by omega⟩
    rw [h3, bytes_append, bytes_append, hl]
    unfold numB
    rw [bytes_ofBytes, bytes_ofBytes, bytes_ofBytes, List.append_assoc, List.take_append_drop]
theorem takeGo_put (most : Nat) (hm : most ≤ 1000000) (l acc : List ByteArray) (h : ∀ s ∈ l, s.size ≤ most) : takeGo most l.length (catT l) acc = (acc ++ l, 0) := by
  induction l generalizing acc with
  | nil =>
    rw [List.length_nil, takeGo, if_pos (by rw [catT_nil, bytes_toList]; rfl), List.append_nil]
  | cons s l ih =>
    rw [List.length_cons, takeGo, catT_cons, takeText_put (h s List.mem_cons_self) hm, if_pos rfl, ih _ (fun x hx => h x (List.mem_cons_of_mem _ hx)), List.append_assoc]
    rfl
theorem takeGo_inv (most : Nat) (n : Nat) (s : ByteArray) (acc l : List ByteArray) (h : takeGo most n s acc = (l, 0)) : ∃ m, l = acc ++ m ∧ m.length = n ∧ s = catT m ∧ ∀ x ∈ m, x.size ≤ most := by
  induction n generalizing s acc with
  | zero =>
    rw [takeGo] at h
    by_cases hs : s.toList = []
    · rw [if_pos hs] at h
      simp only [Prod.mk.injEq, and_true] at h
      refine ⟨[], by rw [List.append_nil, h], rfl, bs_inj ?_, by simp⟩
      rw [← bytes_toList, hs]; rfl
    · rw [if_neg hs] at h; simp at h
  | succ n ih =>
    rw [takeGo] at h
    by_cases ht : (takeTextF most s).2.2 = 0
    · rw [if_pos ht] at h
      obtain ⟨m, h1, h2, h3, h4⟩ := ih _ _ h
      have h5 := takeText_inv (most := most) (s := s) (t := (takeTextF most s).1) (r := (takeTextF most s).2.1) (by rw [← ht])
      refine ⟨(takeTextF most s).1 :: m, by rw [h1, List.append_assoc]; rfl, by rw [List.length_cons, h2], by rw [catT_cons, ← h3]; exact h5.1, fun x hx => ?_⟩
      rcases List.mem_cons.1 hx with rfl | hx
      · exact h5.2
      · exact h4 x hx
    · rw [if_neg ht] at h
      simp only [Prod.mk.injEq] at h
      exact absurd h.2 ht
theorem takeAll_put {many most : Nat} (hm : most ≤ 1000000) (hmn : many ≤ 1000) {l : List ByteArray} (hl : l.length ≤ many) (h : ∀ s ∈ l, s.size ≤ most) : takeAllF many most (allB l) = (l, 0) := by
  have e : takeF (allB l) = ((l.length : Int), catT l, 0) := by
    unfold takeF allB
    rw [bytes_append]
    unfold numB
    rw [bytes_ofBytes, take_put (by omega)]
    simp only
    rw [ofBytes_bytes]
  unfold takeAllF
  rw [e, if_pos rfl, if_neg (by simp only; omega)]
  simp only [Int.toNat_natCast]
  rw [takeGo_put most hm l [] h]
  rfl
theorem takeAll_inv {many most : Nat} {s : ByteArray} {l : List ByteArray} (h : takeAllF many most s = (l, 0)) : s = allB l ∧ l.length ≤ many ∧ ∀ x ∈ l, x.size ≤ most := by
  unfold takeAllF at h
  by_cases h1 : (takeF s).2.2 = 0
  · rw [if_pos h1] at h
    by_cases h2 : (takeF s).1 > (many : Int)
    · rw [if_pos h2] at h; simp at h
    rw [if_neg h2] at h
    obtain ⟨m, e1, e2, e3, e4⟩ := takeGo_inv _ _ _ _ _ h
    rw [List.nil_append] at e1
    subst e1
    unfold takeF at h1 h2 e2 e3
    cases ht : takeL (bytes s) with
    | none => rw [ht] at h1; simp at h1
    | some x =>
      obtain ⟨n, r⟩ := x
      rw [ht] at h2 e2 e3
      simp only [Int.toNat_natCast] at h2 e2 e3
      refine ⟨bs_inj ?_, by omega, e4⟩
      unfold allB
      rw [(take_inv ht).1, bytes_append, ← e3, e2]
      unfold numB
      rw [bytes_ofBytes, bytes_ofBytes]
  · rw [if_neg h1] at h
    simp only [Prod.mk.injEq] at h
    exact absurd h.2 h1
end Go.Proofs.YtfhanoloaejmkaaDoor.Ref
end
section

namespace Go.Proofs.YtfhanoloaejmkaaDoor
open Go.Proofs.YtfhanoloaejmkaaDoor.Ref
set_option linter.unusedVariables false
def sameR (a b : Rt) : Bool := decide (a.o = b.o) && decide (a.f = b.f) && decide (a.e = b.e) && decide (a.rs = b.rs) && decide (a.ws = b.ws)
theorem same_iff (a b : Rt) : sameR a b = true ↔ a = b := by
  unfold sameR
  simp only [Bool.and_eq_true, decide_eq_true_eq]
  cases a; cases b; simp [and_assoc]
def bagR (r : Rt) : List ByteArray := [r.o, r.f, numB r.e.toNat, allB r.rs, allB r.ws]
def putF (r : Rt) : ByteArray × Int := if rightR r = true then (allB (bagR r), 0) else (⟨#[]⟩, 1)
def rtOf (l : List ByteArray) (e : Int) : Rt := ⟨nth l 0, nth l 1, e, (takeAllF 5 4000 (nth l 3)).1, (takeAllF 5 4000 (nth l 4)).1⟩
def least8 (n : Int) : Int := if 8 < n then 8 else n
def takeR (s : ByteArray) : Rt × Int :=
  if (takeAllF 5 4000 s).2 = 0 ∧ (takeAllF 5 4000 s).1.length = 5 then
    (if (putF (rtOf (takeAllF 5 4000 s).1 (least8 (takeF (nth (takeAllF 5 4000 s).1 2)).1))).2 = 0 ∧ (putF (rtOf (takeAllF 5 4000 s).1 (least8 (takeF (nth (takeAllF 5 4000 s).1 2)).1))).1 = s then (rtOf (takeAllF 5 4000 s).1 (least8 (takeF (nth (takeAllF 5 4000 s).1 2)).1), 0) else (noRt, 2))
  else (noRt, 2)
theorem name_size {s : ByteArray} (h : rightN (bytes s) = true) : s.size ≤ 128 := by
  have := right_len h
  rwa [bytes_length] at this
theorem catT_le (l : List ByteArray) (b : Nat) (hb : b ≤ 100000) (h : ∀ s ∈ l, s.size ≤ b) : (catT l).size ≤ l.length * (b + 9) := by
  induction l with
  | nil => rw [catT_nil]; exact Nat.zero_le _
  | cons s l ih =>
    rw [catT_cons, ByteArray.size_append, ByteArray.size_append, List.length_cons]
    have h1 := h s List.mem_cons_self
    have h2 := size_numB (n := s.size) (by omega)
    have h3 := ih fun x hx => h x (List.mem_cons_of_mem _ hx)
    have : (l.length + 1) * (b + 9) = l.length * (b + 9) + (b + 9) := Nat.succ_mul _ _
    omega
theorem allB_le (l : List ByteArray) (b : Nat) (hb : b ≤ 100000) (hl : l.length ≤ 1000) (h : ∀ s ∈ l, s.size ≤ b) : (allB l).size ≤ l.length * (b + 9) + 9 := by
  unfold allB
  rw [ByteArray.size_append]
  have := size_numB (n := l.length) (by omega)
  have := catT_le l b hb h
  omega
theorem bag_small {r : Rt} (h : rightR r = true) : ∀ s ∈ bagR r, s.size ≤ 700 := by
  obtain ⟨p1, p2, p3, p4, p5, p6, p7, p8, p9⟩ := right_parts h
  have a1 := allB_le r.rs 128 (by omega) (by omega) (fun s hs => name_size (p7 s hs).1)
  have a2 := allB_le r.ws 128 (by omega) (by omega) (fun s hs => name_size (p8 s hs).1)
  have a3 := size_numB (n := r.e.toNat) (by omega)
  have a4 := name_size p1
  have a5 := name_size p2
  intro s hs
  unfold bagR at hs
  simp only [List.mem_cons, List.not_mem_nil, or_false] at hs
  rcases hs with rfl | rfl | rfl | rfl | rfl <;> omega
theorem bag_take {r : Rt} (h : rightR r = true) : takeAllF 5 4000 (allB (bagR r)) = (bagR r, 0) :=
  takeAll_put (by omega) (by omega) (Nat.le_refl 5) fun s hs => Nat.le_trans (bag_small h s hs) (by omega)
theorem put_size {r : Rt} (h : rightR r = true) : (putF r).1.size ≤ 4000 := by
  unfold putF
  rw [if_pos h]
  have := allB_le (bagR r) 700 (by omega) (by show 5 ≤ 1000; omega) (bag_small h)
  have e : (bagR r).length = 5 := rfl
  rw [e] at this
  show (allB (bagR r)).size ≤ 4000
  omega
theorem num_take {n : Nat} (h : n < 18446744073709551616) : takeF (numB n) = ((n : Int), ⟨#[]⟩, 0) := by
  unfold takeF numB
  have e := take_put (n := n) h []
  rw [List.append_nil] at e
  rw [bytes_ofBytes, e]
  rfl
theorem rt_bag {r : Rt} (h : rightR r = true) : rtOf (bagR r) r.e = r := by
  obtain ⟨p1, p2, p3, p4, p5, p6, p7, p8, p9⟩ := right_parts h
  unfold rtOf bagR
  have e3 : takeAllF 5 4000 (allB r.rs) = (r.rs, 0) := takeAll_put (by omega) (by omega) (by omega) fun s hs => Nat.le_trans (name_size (p7 s hs).1) (by omega)
  have e4 : takeAllF 5 4000 (allB r.ws) = (r.ws, 0) := takeAll_put (by omega) (by omega) (by omega) fun s hs => Nat.le_trans (name_size (p8 s hs).1) (by omega)
  show (⟨r.o, r.f, r.e, (takeAllF 5 4000 (allB r.rs)).1, (takeAllF 5 4000 (allB r.ws)).1⟩ : Rt) = r
  rw [e3, e4]
theorem bag_num {r : Rt} (h : rightR r = true) : (takeF (nth (bagR r) 2)) = (r.e, ⟨#[]⟩, 0) := by
  obtain ⟨p1, p2, p3, p4, p5, p6, p7, p8, p9⟩ := right_parts h
  show takeF (numB r.e.toNat) = _
  rw [num_take (by omega), Int.toNat_of_nonneg p3.1]
theorem take_back {r : Rt} (h : rightR r = true) : takeR (putF r).1 = (r, 0) := by
  obtain ⟨p1, p2, p3, p4, p5, p6, p7, p8, p9⟩ := right_parts h
  have e : putF r = (allB (bagR r), 0) := by unfold putF; rw [if_pos h]
  have e8 : least8 r.e = r.e := by unfold least8; rw [if_neg (by omega)]
  rw [e]
  unfold takeR
  rw [bag_take h]
  simp only
  rw [bag_num h]
  simp only
  rw [e8, rt_bag h, e, if_pos (show True ∧ (bagR r).length = 5 from ⟨trivial, rfl⟩), if_pos ⟨rfl, rfl⟩]
theorem take_was {s : ByteArray} (h : (takeR s).2 = 0) : rightR (takeR s).1 = true ∧ putF (takeR s).1 = (s, 0) ∧ s = allB (bagR (takeR s).1) := by
  unfold takeR at h ⊢
  split at h
  · rename_i h1
    rw [if_pos h1]
    split at h
    · rename_i h2
      rw [if_pos h2]
      generalize rtOf (takeAllF 5 4000 s).1 (least8 (takeF (nth (takeAllF 5 4000 s).1 2)).1) = r at *
      have hr : rightR r = true := by
        cases c : rightR r with
        | true => rfl
        | false =>
          have := h2.1
          unfold putF at this
          rw [if_neg (by rw [c]; simp)] at this
          cases this
      have e : putF r = (allB (bagR r), 0) := by unfold putF; rw [if_pos hr]
      refine ⟨hr, ?_, ?_⟩
      · show putF r = _
        rw [e] at h2 ⊢
        exact congrArg (fun x => (x, (0 : Int))) h2.2
      · show s = allB (bagR r)
        rw [e] at h2
        exact h2.2.symm
    · cases h
  · cases h
theorem take_not {s : ByteArray} (h : (takeR s).2 ≠ 0) : takeR s = (noRt, 2) := by
  unfold takeR at h ⊢
  split
  · rename_i h1
    rw [if_pos h1] at h
    split
    · rename_i h2
      rw [if_pos h2] at h
      exact absurd rfl h
    · rfl
  · rfl
theorem catT_part {l m : List ByteArray} (h : l.length = m.length) (hl : ∀ s ∈ l, s.size ≤ 4000) (hm : ∀ s ∈ m, s.size ≤ 4000) {x : ByteArray} (e : catT l ++ x = catT m) : x = ⟨#[]⟩ := by
  induction l generalizing m with
  | nil =>
    cases m with
    | nil =>
      rw [catT_nil] at e
      refine bs_inj ?_
      have := congrArg bytes e
      rw [bytes_append] at this
      exact this
    | cons b m => cases h
  | cons a l ih =>
    cases m with
    | nil => cases h
    | cons b m =>
      rw [catT_cons, catT_cons] at e
      have e1 := takeText_put (most := 4000) (hl a List.mem_cons_self) (by omega) (catT l ++ x)
      have e2 := takeText_put (most := 4000) (hm b List.mem_cons_self) (by omega) (catT m)
      rw [← ByteArray.append_assoc, e, e2] at e1
      refine ih (by simpa using h) (fun s hs => hl s (List.mem_cons_of_mem _ hs)) (fun s hs => hm s (List.mem_cons_of_mem _ hs)) ?_
      exact (Prod.mk.inj (Prod.mk.inj e1).2).1.symm
theorem bag_part {r q : Rt} (hr : rightR r = true) (hq : rightR q = true) {x : ByteArray} (e : allB (bagR r) ++ x = allB (bagR q)) : x = ⟨#[]⟩ := by
  refine catT_part (l := bagR r) (m := bagR q) rfl (fun s hs => Nat.le_trans (bag_small hr s hs) (by omega)) (fun s hs => Nat.le_trans (bag_small hq s hs) (by omega)) (x := x) (bs_inj ?_)
  have h := congrArg bytes e
  unfold allB at h
  have e5 : (bagR r).length = (bagR q).length := rfl
  rw [bytes_append, bytes_append, bytes_append, e5, List.append_assoc, ← bytes_append] at h
  exact List.append_cancel_left h
theorem take_more {r : Rt} (h : rightR r = true) {x : ByteArray} (hx : x ≠ ⟨#[]⟩) : takeR ((putF r).1 ++ x) = (noRt, 2) := by
  refine take_not fun h0 => ?_
  obtain ⟨h1, _, h3⟩ := take_was h0
  have e : (putF r).1 = allB (bagR r) := by unfold putF; rw [if_pos h]
  rw [e] at h1 h3
  exact hx (bag_part h h1 h3)
theorem take_less {r : Rt} (h : rightR r = true) {k : Nat} (hk : k < (putF r).1.size) : takeR ((putF r).1.extract 0 k) = (noRt, 2) := by
  refine take_not fun h0 => ?_
  obtain ⟨h1, _, h3⟩ := take_was h0
  have e : (putF r).1 = allB (bagR r) := by unfold putF; rw [if_pos h]
  have hx := bag_part (x := (putF r).1.extract k (putF r).1.size) h1 h (by
    rw [← h3, ← e, ByteArray.extract_append_extract]
    rw [Nat.min_eq_left (Nat.zero_le _), Nat.max_eq_right (Nat.le_of_lt hk), ByteArray.extract_zero_size])
  have := congrArg ByteArray.size hx
  rw [ByteArray.size_extract] at this
  have e0 : (⟨#[]⟩ : ByteArray).size = 0 := rfl
  omega
theorem put_some {r : Rt} (h : rightR r = true) : 0 < (putF r).1.size := by
  have e : (putF r).1 = allB (bagR r) := by unfold putF; rw [if_pos h]
  rw [e]
  unfold allB
  rw [ByteArray.size_append]
  have : (numB (bagR r).length).size = 2 := (show (numB 5).size = 2 by decide +kernel)
  omega
theorem nth_mem {l : List ByteArray} {i : Nat} (h : i < l.length) : nth l i ∈ l := by rw [nth_get h]; exact List.getElem_mem h
end Go.Proofs.YtfhanoloaejmkaaDoor
end
