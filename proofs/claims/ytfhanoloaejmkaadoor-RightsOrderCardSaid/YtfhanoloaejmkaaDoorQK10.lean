/- Contracts and laws that the statement of LawRightsOrder leans on (packed from this claim's own texts): part 10. -/
import Derived.LoopTactic
import Derived.RegionTactic
import Derived.Deep.RegionHeld3
import Derived.Deep.RegionWith
import Derived.Outline
import Derived.Deep.Grids
import Derived.ChangeArms
import Derived.ChangeSame
import Derived.Test.YtfhanoloaejmkaaDoorQK3
import Derived.Test.YtfhanoloaejmkaaDoorQK6
import Derived.Test.YtfhanoloaejmkaaDoorQK7
import Derived.Test.YtfhanoloaejmkaaDoorQK9
section

namespace Go.Proofs.YtfhanoloaejmkaaDoor.Ref
open Go.RowKit Go.Proofs.YtfhanoloaejmkaaDoor Go.Proofs.YtfhanoloaejmkaaDoor.PB Go.Proofs.YtfhanoloaejmkaaDoorW.PrintWords Go.Proofs.YtfhanoloaejmkaaDoorW.PrintLast
set_option linter.unusedVariables false
theorem list_eq (a b : ByteArray) : a.toList = b.toList ↔ a = b := ⟨fun h => bs_inj (by rwa [bytes_toList, bytes_toList] at h), fun h => by rw [h]⟩
theorem rdOf_nth (l : List ByteArray) (i : Nat) : rdOf ByteArray.empty l (i : Int) = nth l i := by
  unfold rdOf nth; rw [Int.toNat_natCast]
theorem has_val (l : List ByteArray) (x : ByteArray) (h : l.length ≤ 140737488355328) : rights_has_string.f l x = some (searchB l x) := by
  unfold rights_has_string.f rights_place.f
  rw [if_pos h]; rfl
theorem right_val (a : ByteArray) (h : a.size ≤ 9223372036854775807) : name_Right.f a = some (rightN (bytes a)) := by unfold name_Right.f; rw [if_pos h]
theorem rises_loop (l : List ByteArray) (hl : l.length ≤ 1000000) (m i : Nat) (hm : i + m = l.length) (h : ∀ j, j + 1 < i → (h : j + 1 < l.length) → ltB (l[j]'(by omega)) l[j + 1] = true) :
    Ev (fun k => rights_rises_string.l0 k l (l.length : Int) (i : Int)) (risesL l) := by
  induction m generalizing i with
  | zero =>
    refine Ev.step (fun _ => rfl) (Ev.neg (by omega) ?_)
    have : risesL l = true := rises_get.2 fun j hj => h j (by omega) hj
    rw [this]; exact Ev.now _
  | succ m ih =>
    refine Ev.step (fun _ => rfl) (Ev.pos (by omega) ?_)
    by_cases h0 : i = 0
    · subst h0
      refine Ev.neg (by omega) ?_
      rw [show wrap64 (((0 : Nat) : Int) + 1) = ((1 : Nat) : Int) by rw [w64 (by omega) (by omega)]; rfl]
      exact ih 1 (by omega) (fun j hj => by omega)
    · obtain ⟨j, rfl⟩ : ∃ j, i = j + 1 := ⟨i - 1, by omega⟩
      have e1 : wrap64 (((j + 1 : Nat) : Int) - 1) = (j : Int) := by rw [w64 (by omega) (by omega)]; omega
      have e2 : wrap64 (((j + 1 : Nat) : Int) + 1) = ((j + 2 : Nat) : Int) := by rw [w64 (by omega) (by omega)]; omega
      rw [e1, e2, rdOf_nth, rdOf_nth, lessB]
      refine Ev.pos (by omega) (Ev.pos (by omega) (Ev.pos (by omega) (Ev.pos (by omega) (Ev.pos (by omega) ?_))))
      have e3 : ltB (nth l j) (nth l (j + 1)) = ltB (l[j]'(by omega)) (l[j + 1]'(by omega)) := by rw [nth_get (by omega), nth_get (by omega)]
      by_cases hlt : ltB (nth l j) (nth l (j + 1)) = true
      · refine Ev.pos hlt (ih (j + 2) (by omega) (fun q hq hq2 => ?_))
        by_cases hqj : q = j
        · subst hqj; rw [← e3]; exact hlt
        · exact h q (by omega) hq2
      · refine Ev.neg hlt ?_
        have : risesL l = false := by
          cases hr : risesL l with
          | false => rfl
          | true => exact absurd (e3 ▸ rises_get.1 hr j (by omega)) hlt
        rw [this]; exact Ev.now _
theorem rises_ev (l : List ByteArray) (hl : l.length ≤ 1000000) : Ev (fun k => rights_rises_string.f k l) (risesL l) := rises_loop l hl l.length 0 (by omega) (fun j hj => by omega)
def smallS (s : ByteArray) : Bool := decide (s.size ≤ 1000000)
def smallR (r : Rt) : Bool := smallS r.o && smallS r.f && decide (-9223372036854775808 ≤ r.e ∧ r.e ≤ 9223372036854775807) && decide (r.rs.length ≤ 1000) && decide (r.ws.length ≤ 1000) && r.rs.all smallS && r.ws.all smallS
theorem small_parts {r : Rt} (h : smallR r = true) : r.o.size ≤ 1000000 ∧ r.f.size ≤ 1000000 ∧ (-9223372036854775808 ≤ r.e ∧ r.e ≤ 9223372036854775807) ∧ r.rs.length ≤ 1000 ∧ r.ws.length ≤ 1000 ∧ (∀ s ∈ r.rs, s.size ≤ 1000000) ∧ ∀ s ∈ r.ws, s.size ≤ 1000000 := by
  unfold smallR smallS at h
  simp only [Bool.and_eq_true, List.all_eq_true, decide_eq_true_eq] at h
  obtain ⟨⟨⟨⟨⟨⟨h1, h2⟩, h3⟩, h4⟩, h5⟩, h6⟩, h7⟩ := h
  exact ⟨h1, h2, h3, h4, h5, h6, h7⟩
theorem small_mk {r : Rt} (h1 : r.o.size ≤ 1000000) (h2 : r.f.size ≤ 1000000) (h3 : -9223372036854775808 ≤ r.e ∧ r.e ≤ 9223372036854775807) (h4 : r.rs.length ≤ 1000) (h5 : r.ws.length ≤ 1000) (h6 : ∀ s ∈ r.rs, s.size ≤ 1000000) (h7 : ∀ s ∈ r.ws, s.size ≤ 1000000) : smallR r = true := by
  unfold smallR smallS
  simp only [Bool.and_eq_true, List.all_eq_true, decide_eq_true_eq]
  exact ⟨⟨⟨⟨⟨⟨h1, h2⟩, h3⟩, h4⟩, h5⟩, h6⟩, h7⟩
theorem right_loop (l : List ByteArray) (o f : ByteArray) (e : Int) (rs ws : List ByteArray) (hl : l.length ≤ 1000000) (hs : ∀ s ∈ l, s.size ≤ 1000000) (hr : rs.length ≤ 1000) (hw : ws.length ≤ 1000) (m i : Nat) (hm : i + m = l.length) :
    Ev (fun k => rights_Right.l0 k l (l.length : Int) (i : Int) o f e rs ws) ((l.drop i).all fun s => rightN (bytes s) && !decide (s = o) && !(searchB rs s && searchB ws s)) := by
  induction m generalizing i with
  | zero =>
    rw [List.drop_eq_nil_of_le (by omega)]
    exact Ev.step (fun _ => rfl) (Ev.neg (by omega) (Ev.now _))
  | succ m ih =>
    have hi : i < l.length := by omega
    have ih := ih (i + 1) (by omega)
    have hsz := hs l[i] (List.getElem_mem hi)
    rw [List.drop_eq_getElem_cons hi, List.all_cons]
    refine Ev.step (fun _ => rfl) (Ev.pos (by omega) (Ev.pos (by omega) (Ev.pos (by omega) ?_)))
    rw [rdOf_nth, nth_get hi, w64 (n := (i : Int) + 1) (by omega) (by omega)]
    refine Ev.put (right_val _ (by omega)) ?_
    cases h1 : rightN (bytes l[i]) with
    | false => exact Ev.neg (by simp) (Ev.now _)
    | true =>
      refine Ev.pos rfl ?_
      by_cases h2 : l[i] = o
      · rw [decide_eq_true h2]
        exact Ev.pos ((list_eq _ _).2 h2) (Ev.now _)
      · rw [decide_eq_false h2]
        refine Ev.neg (fun h => h2 ((list_eq _ _).1 h)) ?_
        refine Ev.put (has_val _ _ (by omega)) ?_
        cases h3 : searchB rs l[i] with
        | false =>
          refine Ev.neg (by simp) ?_
          simpa using ih
        | true =>
          refine Ev.pos rfl ?_
          refine Ev.put (has_val _ _ (by omega)) ?_
          cases h4 : searchB ws l[i] with
          | true => exact Ev.pos rfl (Ev.now _)
          | false =>
            refine Ev.neg (by simp) ?_
            simpa using ih
theorem right_ev (r : Rt) (h : smallR r = true) : Ev (fun k => rights_Right.f k r.o r.f r.e r.rs r.ws) (rightR r) := by
  obtain ⟨h1, h2, h3, h4, h5, h6, h7⟩ := small_parts h
  have hno : ∀ b : Bool, (∀ k, rights_Right.j0 (k + 1) b r.o r.f r.e r.rs r.ws = if b = true then some false else (slices_Concat.f [r.rs, r.ws]).bind fun t => rights_Right.l0 k t (t.length : Int) 0 r.o r.f r.e r.rs r.ws) := fun b k => rfl
  have hbad : Ev (fun k => rights_Right.j0 k true r.o r.f r.e r.rs r.ws) false := Ev.step (hno true) (Ev.pos rfl (Ev.now _))
  rw [← right_walk]
  unfold rights_Right.f
  refine Ev.put (right_val _ (by omega)) ?_
  cases rightN (bytes r.o) with
  | false => exact Ev.neg (by simp) (ev_cast hbad (by simp))
  | true =>
  refine Ev.pos rfl (Ev.put (right_val _ (by omega)) ?_)
  cases rightN (bytes r.f) with
  | false => exact Ev.neg (by simp) (ev_cast hbad (by simp))
  | true =>
  refine Ev.pos rfl ?_
  by_cases c1 : r.e < 0
  · refine Ev.pos c1 (ev_cast hbad ?_)
    rw [decide_eq_false (by omega)]; simp
  refine Ev.neg c1 ?_
  by_cases c2 : r.e ≥ 8
  · refine Ev.pos c2 (ev_cast hbad ?_)
    rw [decide_eq_false (by omega)]; simp
  refine Ev.neg c2 ?_
  rw [decide_eq_true (show 0 ≤ r.e ∧ r.e ≤ 7 by omega), w64 (n := (r.rs.length : Int) + r.ws.length) (by omega) (by omega)]
  by_cases c3 : (r.rs.length : Int) + r.ws.length > 5
  · refine Ev.pos c3 (ev_cast hbad ?_)
    rw [decide_eq_false (by omega)]; simp
  refine Ev.neg c3 ?_
  rw [decide_eq_true (show r.rs.length + r.ws.length ≤ 5 by omega)]
  refine Ev.bind (rises_ev r.rs (by omega)) ?_
  cases risesL r.rs with
  | false => exact Ev.neg (by simp) (ev_cast hbad (by simp))
  | true =>
  refine Ev.pos rfl (Ev.bind (rises_ev r.ws (by omega)) ?_)
  cases risesL r.ws with
  | false => exact ev_cast hbad (by simp)
  | true =>
  refine Ev.step (hno _) (Ev.neg (by simp) ?_)
  have hc : slices_Concat.f [r.rs, r.ws] = some (r.rs ++ r.ws) := by
    unfold slices_Concat.f
    rw [if_pos (by simp; omega)]
    simp
  refine Ev.put hc ?_
  have hlen : (r.rs ++ r.ws).length ≤ 1000000 := by rw [List.length_append]; omega
  refine ev_cast (right_loop (r.rs ++ r.ws) r.o r.f r.e r.rs r.ws hlen (fun s hs => (List.mem_append.1 hs).elim (h6 s) (h7 s)) h4 h5 (r.rs ++ r.ws).length 0 (by omega)) ?_
  simp only [List.drop_zero, Bool.true_and]
def askedF (r : Rt) (u : ByteArray) : Int := if rightR r = true then (if rightN (bytes u) = true then 0 else 3) else 1
theorem asked_ev (r : Rt) (u : ByteArray) (h : smallR r = true) (hu : u.size ≤ 1000000) : Ev (fun k => rights_asked.f k r.o r.f r.e r.rs r.ws u) (askedF r u) := by
  unfold rights_asked.f askedF
  refine Ev.bind (right_ev r h) ?_
  cases rightR r with
  | false => exact Ev.neg (by simp) (Ev.now _)
  | true =>
    refine Ev.pos rfl (Ev.put (right_val _ (by omega)) ?_)
    cases rightN (bytes u) with
    | false => exact Ev.neg (by simp) (Ev.now _)
    | true => exact Ev.pos rfl (Ev.now _)
theorem can_ev (r : Rt) (u : ByteArray) (w : Bool) (h : smallR r = true) : Ev (fun k => rights_Can.f k r.o r.f r.e r.rs r.ws u w) (canF r u w) := by
  obtain ⟨h1, h2, h3, h4, h5, h6, h7⟩ := small_parts h
  unfold rights_Can.f canF
  refine Ev.bind (right_ev r h) ?_
  cases hr : rightR r with
  | false => exact Ev.neg (by simp) (Ev.now _)
  | true =>
    have hp := right_parts hr
    refine Ev.pos rfl ?_
    by_cases e1 : u = r.o
    · rw [decide_eq_true e1]
      exact Ev.pos ((list_eq _ _).2 e1) (Ev.now _)
    rw [decide_eq_false e1]
    refine Ev.neg (fun h => e1 ((list_eq _ _).1 h)) (Ev.put (has_val _ _ (by omega)) ?_)
    rw [searchB_eq hp.2.2.2.2.2.1]
    by_cases e2 : u ∈ r.ws
    · rw [decide_eq_true e2]
      exact Ev.pos rfl (Ev.now _)
    rw [decide_eq_false e2]
    refine Ev.neg (by simp) ?_
    cases w with
    | true => exact Ev.pos rfl (Ev.now _)
    | false =>
      refine Ev.neg (by simp) (Ev.put (has_val _ _ (by omega)) ?_)
      rw [searchB_eq hp.2.2.2.2.1]
      simpa using Ev.now _
end Go.Proofs.YtfhanoloaejmkaaDoor.Ref
end
section

namespace Go.Proofs.YtfhanoloaejmkaaDoor
open Go.RowKit Go.Proofs.YtfhanoloaejmkaaDoorW.PrintWords Go.Proofs.YtfhanoloaejmkaaDoor.Ref
set_option linter.unusedVariables false
set_option linter.unusedSimpArgs false
theorem asked_call (r : Rt) (u : ByteArray) (A : Option Addr) (c : Nat) (A' : Option Addr) (c' : Nat) (w : World) (HTB : Aside0 (Tabs w)) (hs : smallR r = true) (hu : u.size ≤ 1000000) (h1 : Kd.C Kd.string w A r.rs.length r.rs) (h2 : r.rs.length ≤ c) (h3 : Kd.C Kd.string w A' r.ws.length r.ws) (h4 : r.ws.length ≤ c') :
    Calls Tryd.prog 31 #[.agg #[.string r.o, .string r.f, .int .i64 r.e, .slice A r.rs.length c, .slice A' r.ws.length c'], .string u] w fun e w' => e = .returned (.int .i64 (askedF r u)) ∧ Below w.heap.size w w' := by
  obtain ⟨K, h⟩ := asked_ev r u hs hu
  exact PB.rights_asked.calls K r.o r.f r.e A c r.rs A' c' r.ws u _ w HTB h1 h2 h3 h4 (h K (Nat.le_refl _))
theorem other_call (r : Rt) (u : ByteArray) (A : Option Addr) (c : Nat) (A' : Option Addr) (c' : Nat) (w : World) (hs : smallR r = true) (h1 : Kd.C Kd.string w A r.rs.length r.rs) (h2 : r.rs.length ≤ c) (h3 : Kd.C Kd.string w A' r.ws.length r.ws) (h4 : r.ws.length ≤ c') :
    Calls Tryd.prog 32 #[.agg #[.string r.o, .string r.f, .int .i64 r.e, .slice A r.rs.length c, .slice A' r.ws.length c'], .string u] w fun e w' => e = .returned (.bool (searchB r.rs u || searchB r.ws u)) ∧ Below w.heap.size w w' := by
  obtain ⟨_, _, _, q1, q2, _⟩ := small_parts hs
  refine PB.rights_other.calls r.o r.f r.e A c r.rs A' c' r.ws u _ w h1 h2 h3 h4 ?_
  unfold PB.rights_other.f
  rw [has_val _ _ (by omega), has_val _ _ (by omega)]
  cases searchB r.rs u <;> simp
def BoxAt (w : World) (b : Nat) (r : Rt) (v3 v4 : Value) : Prop := ∃ cs : Array Value, cs = #[.string r.o, .string r.f, .int .i64 r.e, v3, v4] ∧ w.heap[b]? = some (.cells cs 26 (0, 0))
theorem BoxAt.cell {w : World} {b : Nat} {r : Rt} {v3 v4 : Value} (h : BoxAt w b r v3 v4) : w.cell? ⟨b, 0, none⟩ = some (.string r.o) ∧ w.cell? ⟨b, 1, none⟩ = some (.string r.f) ∧ w.cell? ⟨b, 2, none⟩ = some (.int .i64 r.e) ∧ w.cell? ⟨b, 3, none⟩ = some v3 ∧ w.cell? ⟨b, 4, none⟩ = some v4 := by
  obtain ⟨cs, rfl, h⟩ := h
  exact ⟨blk_cell h 0, blk_cell h 1, blk_cell h 2, blk_cell h 3, blk_cell h 4⟩
theorem BoxAt.free {w : World} {b : Nat} {r : Rt} {v3 v4 : Value} (h : BoxAt w b r v3 v4) (i : Nat) : w.frozen? ⟨b, i, none⟩ = false := by
  obtain ⟨cs, rfl, h⟩ := h
  exact blk_frozen h i
theorem BoxAt.below {w w1 : World} {b : Nat} {r : Rt} {v3 v4 : Value} (h : BoxAt w b r v3 v4) (hb : Below w.heap.size w w1) : BoxAt w1 b r v3 v4 := by
  obtain ⟨cs, rfl, h⟩ := h
  exact ⟨_, rfl, by rw [hb.block b (blk_lt h)]; exact h⟩
theorem BoxAt.put {w : World} {b : Nat} {r : Rt} {v3 v4 : Value} (h : BoxAt w b r v3 v4) (r' : Rt) (v3' v4' : Value) :
    BoxAt (((((w.setCell ⟨b, 0, none⟩ (.string r'.o)).setCell ⟨b, 1, none⟩ (.string r'.f)).setCell ⟨b, 2, none⟩ (.int .i64 r'.e)).setCell ⟨b, 3, none⟩ v3').setCell ⟨b, 4, none⟩ v4') b r' v3' v4' := by
  obtain ⟨cs, rfl, h⟩ := h
  exact ⟨_, rfl, blk_set (blk_set (blk_set (blk_set (blk_set h 0 _) 1 _) 2 _) 3 _) 4 _⟩
theorem BoxAt.put_below {B : Nat} {w0 w : World} {b : Nat} (hb : Below B w0 w) (hB : B ≤ b) (r' : Rt) (v3' v4' : Value) :
    Below B w0 (((((w.setCell ⟨b, 0, none⟩ (.string r'.o)).setCell ⟨b, 1, none⟩ (.string r'.f)).setCell ⟨b, 2, none⟩ (.int .i64 r'.e)).setCell ⟨b, 3, none⟩ v3').setCell ⟨b, 4, none⟩ v4') :=
  ((((hb.setCell hB _).setCell hB _).setCell hB _).setCell hB _).setCell hB _
structure St (w0 W : World) (r : Rt) (v3 v4 : Value) (l3 l4 : List ByteArray) : Prop where
  bel : Below w0.heap.size w0 W
  box : BoxAt W w0.heap.size r v3 v4
  res : BoxAt W (w0.heap.size + 1) noRt (.slice none 0 0) (.slice none 0 0)
  own3 : W.ownsRow (w0.heap.size + 2) 9 1 v3 l3.length (strs l3)
  own4 : W.ownsRow (w0.heap.size + 2) 9 1 v4 l4.length (strs l4)
  apart : ∀ k, v3.ownBlock = some k → v4.ownBlock ≠ some k
theorem St.below {w0 W W' : World} {r : Rt} {v3 v4 : Value} {l3 l4 : List ByteArray} (h : St w0 W r v3 v4 l3 l4) (hb : Below W.heap.size W W') : St w0 W' r v3 v4 l3 l4 :=
  ⟨below_step h.bel hb, h.box.below hb, h.res.below hb, pw_own_below h.own3 hb, pw_own_below h.own4 hb, h.apart⟩
theorem BoxAt.grown {w w1 : World} {b : Nat} {r : Rt} {v3 v4 : Value} {row : Option Nat} (h : BoxAt w b r v3 v4) (hg : w.grownBy w1 row) (hne : some b ≠ row) : BoxAt w1 b r v3 v4 := by
  obtain ⟨cs, rfl, h⟩ := h
  exact ⟨_, rfl, blk_grown h hg hne⟩
theorem BoxAt.far {w : World} {b : Nat} {r : Rt} {v3 v4 : Value} (h : BoxAt w b r v3 v4) {p : Addr} (hp : b ≠ p.block) (u : Value) : BoxAt (w.setCell p u) b r v3 v4 := by
  obtain ⟨cs, rfl, h⟩ := h
  exact ⟨_, rfl, blk_far h hp u⟩
theorem BoxAt.set3 {w : World} {b : Nat} {r : Rt} {v3 v4 : Value} (h : BoxAt w b r v3 v4) (u : Value) : BoxAt (w.setCell ⟨b, 3, none⟩ u) b r u v4 := by
  obtain ⟨cs, rfl, h⟩ := h
  exact ⟨_, rfl, blk_set h 3 u⟩
theorem BoxAt.set4 {w : World} {b : Nat} {r : Rt} {v3 v4 : Value} (h : BoxAt w b r v3 v4) (u : Value) : BoxAt (w.setCell ⟨b, 4, none⟩ u) b r v3 u := by
  obtain ⟨cs, rfl, h⟩ := h
  exact ⟨_, rfl, blk_set h 4 u⟩
theorem own_not {W : World} {B : Nat} {v : Value} {l : List ByteArray} (h : W.ownsRow B 9 1 v l.length (strs l)) {b : Nat} (hb : b < B) : some b ≠ v.ownBlock := fun e => by
  have := own_base h b e.symm
  omega
theorem St.set3 {w0 W W' : World} {r : Rt} {v3 v4 v3' : Value} {l3 l4 l3' : List ByteArray} (h : St w0 W r v3 v4 l3 l4) (hg : W.grownBy W' v3.ownBlock) (ho : W'.ownsRow (w0.heap.size + 2) 9 1 v3' l3'.length (strs l3')) (hat : v3'.ownBlock = v3.ownBlock ∨ ∃ b, v3'.ownBlock = some b ∧ W.heap.size ≤ b) :
    St w0 (W'.setCell ⟨w0.heap.size, 3, none⟩ v3') r v3' v4 l3' l4 := by
  have n4 : v4.ownBlock ≠ v3.ownBlock ∨ v4.ownBlock = none := by
    cases e : v4.ownBlock with
    | none => exact Or.inr rfl
    | some k => exact Or.inl fun e2 => h.apart k e2.symm e
  have o4 : W'.ownsRow (w0.heap.size + 2) 9 1 v4 l4.length (strs l4) := by
    rcases n4 with n4 | n4
    · exact own_other h.own4 hg (Or.inr n4)
    · rcases own_row h.own4 with ⟨rfl, rfl⟩ | ⟨g, cap, cur, rfl, _⟩
      · exact own_nil _ _ _ _
      · simp [Value.ownBlock] at n4
  refine ⟨(h.bel.grown hg (by have := h.bel.size; omega) (fun k hk => by have := own_base h.own3 k hk; omega)).setCell (Nat.le_refl _) _, (h.box.grown hg (own_not h.own3 (by omega))).set3 _, (h.res.grown hg (own_not h.own3 (by omega))).far (by show _ ≠ w0.heap.size; omega) _, own_setCell ho (own_not ho (by show w0.heap.size < _; omega)) _, own_setCell o4 (own_not o4 (by show w0.heap.size < _; omega)) _, fun k hk => ?_⟩
  rcases hat with hat | ⟨b, hat, hle⟩
  · exact h.apart k (hat ▸ hk)
  · intro e
    have h1 := own_lt h.own4 k e
    rw [hk] at hat
    cases hat
    omega
theorem St.set4 {w0 W W' : World} {r : Rt} {v3 v4 v4' : Value} {l3 l4 l4' : List ByteArray} (h : St w0 W r v3 v4 l3 l4) (hg : W.grownBy W' v4.ownBlock) (ho : W'.ownsRow (w0.heap.size + 2) 9 1 v4' l4'.length (strs l4')) (hat : v4'.ownBlock = v4.ownBlock ∨ ∃ b, v4'.ownBlock = some b ∧ W.heap.size ≤ b) :
    St w0 (W'.setCell ⟨w0.heap.size, 4, none⟩ v4') r v3 v4' l3 l4' := by
  have n3 : v3.ownBlock ≠ v4.ownBlock ∨ v3.ownBlock = none := by
    cases e : v3.ownBlock with
    | none => exact Or.inr rfl
    | some k => exact Or.inl fun e2 => h.apart k e e2.symm
  have o3 : W'.ownsRow (w0.heap.size + 2) 9 1 v3 l3.length (strs l3) := by
    rcases n3 with n3 | n3
    · exact own_other h.own3 hg (Or.inr n3)
    · rcases own_row h.own3 with ⟨rfl, rfl⟩ | ⟨g, cap, cur, rfl, _⟩
      · exact own_nil _ _ _ _
      · simp [Value.ownBlock] at n3
  refine ⟨(h.bel.grown hg (by have := h.bel.size; omega) (fun k hk => by have := own_base h.own4 k hk; omega)).setCell (Nat.le_refl _) _, (h.box.grown hg (own_not h.own4 (by omega))).set4 _, (h.res.grown hg (own_not h.own4 (by omega))).far (by show _ ≠ w0.heap.size; omega) _, own_setCell o3 (own_not o3 (by show w0.heap.size < _; omega)) _, own_setCell ho (own_not ho (by show w0.heap.size < _; omega)) _, fun k hk e => ?_⟩
  rcases hat with hat | ⟨b, hat, hle⟩
  · exact h.apart k hk (hat ▸ e)
  · have h1 := own_lt h.own3 k hk
    rw [e] at hat
    cases hat
    omega
theorem St.start {w0 W W3 W4 : World} {r : Rt} {v3 v4 u3 u4 : Value} {l3 l4 : List ByteArray} (hb : Below w0.heap.size w0 W) (hx : BoxAt W w0.heap.size r u3 u4) (hy : BoxAt W (w0.heap.size + 1) noRt (.slice none 0 0) (.slice none 0 0)) (h3 : W3.ownsRow W.heap.size 9 1 v3 l3.length (strs l3)) (b3 : Below W.heap.size W W3)
    (h4 : W4.ownsRow W3.heap.size 9 1 v4 l4.length (strs l4)) (b4 : Below W3.heap.size W3 W4) : St w0 ((W4.setCell ⟨w0.heap.size, 3, none⟩ v3).setCell ⟨w0.heap.size, 4, none⟩ v4) r v3 v4 l3 l4 := by
  have hs : w0.heap.size + 2 ≤ W.heap.size := by
    obtain ⟨cs, rfl, h⟩ := hy
    have := blk_lt h
    omega
  have hs3 := b3.size
  have o3 := pw_own_below (own_weaken h3 hs) b4
  have o4 := own_weaken h4 (show w0.heap.size + 2 ≤ W3.heap.size by omega)
  have q : w0.heap.size < w0.heap.size + 2 := by omega
  refine ⟨((below_step (below_step hb b3) b4).setCell (Nat.le_refl _) _).setCell (Nat.le_refl _) _, (((hx.below b3).below b4).set3 _).set4 _, (((hy.below b3).below b4).far (by show _ ≠ w0.heap.size; omega) _).far (by show _ ≠ w0.heap.size; omega) _, own_setCell (own_setCell o3 (own_not o3 q) _) (own_not o3 q) _, own_setCell (own_setCell o4 (own_not o4 q) _) (own_not o4 q) _, fun k hk e => ?_⟩
  have := own_lt h3 k hk
  have := own_base h4 k e
  omega
theorem own_C {W : World} {B : Nat} {v : Value} {l : List ByteArray} (h : W.ownsRow B 9 1 v l.length (strs l)) : ∃ A c, v = .slice A l.length c ∧ l.length ≤ c ∧ Kd.C Kd.string W A l.length l :=
  Kd.R_reads (ok := fun _ => True) (Kd.R_of_own h (fun _ _ => trivial))
theorem St.rows {w0 W : World} {r : Rt} {v3 v4 : Value} {l3 l4 : List ByteArray} (h : St w0 W r v3 v4 l3 l4) :
    Kd.R Kd.string 9 W w0.heap.size (fun k_ => some k_ ≠ (v4 : Value).ownBlock) v3 l3 ∧ Kd.R Kd.string 9 W w0.heap.size (fun k_ => some k_ ≠ (v3 : Value).ownBlock) v4 l4 :=
  ⟨Kd.R_of_own (own_weaken h.own3 (by omega)) (fun k hk e => h.apart k hk e.symm), Kd.R_of_own (own_weaken h.own4 (by omega)) (fun k hk e => h.apart k e.symm hk)⟩
theorem own_set {W : World} {B b i : Nat} {v : Value} {l : List ByteArray} (h : W.ownsRow B 9 1 v l.length (strs l)) (hb : b < B) (u : Value) : (W.setCell ⟨b, i, none⟩ u).ownsRow B 9 1 v l.length (strs l) := own_setCell h (own_not h hb) u
theorem St.fin {w0 W : World} {r : Rt} {v3 v4 : Value} {l3 l4 : List ByteArray} (h : St w0 W r v3 v4 l3 l4) (a b c d e : Value) :
    Kd.R Kd.string 9 (((((W.setCell ⟨w0.heap.size + 1, 0, none⟩ a).setCell ⟨w0.heap.size + 1, 1, none⟩ b).setCell ⟨w0.heap.size + 1, 2, none⟩ c).setCell ⟨w0.heap.size + 1, 3, none⟩ d).setCell ⟨w0.heap.size + 1, 4, none⟩ e) w0.heap.size (fun k_ => some k_ ≠ (v4 : Value).ownBlock) v3 l3 ∧
      Kd.R Kd.string 9 (((((W.setCell ⟨w0.heap.size + 1, 0, none⟩ a).setCell ⟨w0.heap.size + 1, 1, none⟩ b).setCell ⟨w0.heap.size + 1, 2, none⟩ c).setCell ⟨w0.heap.size + 1, 3, none⟩ d).setCell ⟨w0.heap.size + 1, 4, none⟩ e) w0.heap.size (fun k_ => some k_ ≠ (v3 : Value).ownBlock) v4 l4 := by
  have q : w0.heap.size + 1 < w0.heap.size + 2 := by omega
  have h3 := own_set (i := 4) (own_set (i := 3) (own_set (i := 2) (own_set (i := 1) (own_set (i := 0) h.own3 q a) q b) q c) q d) q e
  have h4 := own_set (i := 4) (own_set (i := 3) (own_set (i := 2) (own_set (i := 1) (own_set (i := 0) h.own4 q a) q b) q c) q d) q e
  exact ⟨Kd.R_of_own (own_weaken h3 (by omega)) (fun k hk e => h.apart k hk e.symm), Kd.R_of_own (own_weaken h4 (by omega)) (fun k hk e => h.apart k e.symm hk)⟩
theorem own_C' {W : World} {B c : Nat} {A : Option Addr} {l : List ByteArray} (h : W.ownsRow B 9 1 (.slice A l.length c) l.length (strs l)) : l.length ≤ c ∧ Kd.C Kd.string W A l.length l := by
  obtain ⟨A', c', e, h1, h2⟩ := own_C h
  simp only [Value.slice.injEq] at e
  obtain ⟨rfl, _, rfl⟩ := e
  exact ⟨h1, h2⟩
theorem place_call (l : List ByteArray) (u : ByteArray) (A : Option Addr) (c B : Nat) (W : World) (hl : l.length ≤ 1000000) (ho : W.ownsRow B 9 1 (.slice A l.length c) l.length (strs l)) :
    Calls Tryd.prog 34 #[.slice A l.length c, .string u] W fun e w' => e = .returned (.tuple #[.int .i64 (searchN l u : Nat), .bool (searchB l u)]) ∧ Below W.heap.size W w' :=
  rights_place.calls A c l u _ _ W (own_C' ho).2 (own_C' ho).1 (by unfold rights_place.f; rw [if_pos (by omega)])
set_option maxHeartbeats 4000000 in
set_option maxRecDepth 100000 in
theorem grant_any (r : Rt) (u : ByteArray) (wr : Bool) (A : Option Addr) (c : Nat) (A' : Option Addr) (c' : Nat) (w : World) (HTB : Aside0 (Tabs w)) (hs : smallR r = true) (hu : u.size ≤ 1000000) (h1 : Kd.C Kd.string w A r.rs.length r.rs) (h2 : r.rs.length ≤ c) (h3 : Kd.C Kd.string w A' r.ws.length r.ws) (h4 : r.ws.length ≤ c') :
    Calls Tryd.prog 14 #[.agg #[.string r.o, .string r.f, .int .i64 r.e, .slice A r.rs.length c, .slice A' r.ws.length c'], .string u, .bool wr] w fun e w' => ∃ v3_ v4_ : Value, e = .returned (.tuple #[.agg #[.string (grantF r u wr).1.o, .string (grantF r u wr).1.f, .int .i64 (grantF r u wr).1.e, v3_, v4_], .int .i64 (grantF r u wr).2]) ∧ Kd.R Kd.string 9 w' w.heap.size (fun k_ => some k_ ≠ (v4_ : Value).ownBlock) v3_ (grantF r u wr).1.rs ∧ Kd.R Kd.string 9 w' w.heap.size (fun k_ => some k_ ≠ (v3_ : Value).ownBlock) v4_ (grantF r u wr).1.ws ∧ Below w.heap.size w w' := by
  obtain ⟨R, hR⟩ : ∃ R, grantF r u wr = R := ⟨_, rfl⟩
  rw [hR]
  have HR := Lib.hid hR
  clear hR
  go_enter Tryd.func14, Tryd.ntmps14
  have hb0 : Below w.heap.size w ((w.alloc (Obj.cells #[Value.string r.o, Value.string r.f, Value.int IntKind.i64 r.e, Value.slice A r.rs.length c, Value.slice A' r.ws.length c'] 26)).alloc (Obj.cells #[Value.string { data := #[] }, Value.string { data := #[] }, Value.int IntKind.i64 0, Value.slice none 0 0, Value.slice none 0 0] 26)) := below_alloc (below_alloc (Below.refl _ _) _) _
  have hx0 : BoxAt ((w.alloc (Obj.cells #[Value.string r.o, Value.string r.f, Value.int IntKind.i64 r.e, Value.slice A r.rs.length c, Value.slice A' r.ws.length c'] 26)).alloc (Obj.cells #[Value.string { data := #[] }, Value.string { data := #[] }, Value.int IntKind.i64 0, Value.slice none 0 0, Value.slice none 0 0] 26)) w.heap.size r (.slice A r.rs.length c) (.slice A' r.ws.length c') :=
    ⟨_, rfl, by rw [(World.grownBy_alloc _ _ none).block _ (by rw [World.size_alloc]; omega) (by simp)]; exact heap_new _ _ _ rfl⟩
  have hy0 : BoxAt ((w.alloc (Obj.cells #[Value.string r.o, Value.string r.f, Value.int IntKind.i64 r.e, Value.slice A r.rs.length c, Value.slice A' r.ws.length c'] 26)).alloc (Obj.cells #[Value.string { data := #[] }, Value.string { data := #[] }, Value.int IntKind.i64 0, Value.slice none 0 0, Value.slice none 0 0] 26)) (w.heap.size + 1) noRt (.slice none 0 0) (.slice none 0 0) :=
    ⟨_, rfl, heap_new _ _ _ (by rw [World.size_alloc])⟩
  have HA := Lib.hid (asked_call r u A c A' c' _ ⟨HTB.out.below hb0⟩ hs hu (Kd.C_below h1 hb0) h2 (Kd.C_below h3 hb0) h4)
  have HB0 := Lib.hid hb0
  have HX0 := Lib.hid hx0
  have HY0 := Lib.hid hy0
  have HS := Lib.hid hs
  have HC1 := Lib.hid h1
  have HC3 := Lib.hid h3
  clear hb0 hx0 hy0 hs h1 h3
  go_wp2_with fail
  refine HA.out.mono ?_
  rintro e w1 ⟨rfl, hb⟩
  have HB1 := Lib.hid (below_step HB0.out hb)
  have HX1 := Lib.hid (HX0.out.below hb)
  have HY1 := Lib.hid (HY0.out.below hb)
  clear hb HB0 HX0 HY0 HA
  by_cases ha : askedF r u = 0
  · have hq : rightR r = true ∧ rightN (bytes u) = true := by
      unfold askedF at ha
      cases q1 : rightR r with
      | false => rw [q1] at ha; simp at ha
      | true =>
        cases q2 : rightN (bytes u) with
        | false => rw [q1, q2] at ha; simp at ha
        | true => exact ⟨rfl, rfl⟩
    obtain ⟨hq1, hq2⟩ := hq
    have hp := right_parts hq1
    obtain ⟨x0, x1, x2, x3, x4⟩ := HX1.out.cell
    rw [ha]
    clear ha
    by_cases e1 : u = r.o
    · have HN : Hid (R.1 = noRt ∧ R.2 = 5) := by
        rw [← HR.out]
        unfold grantF
        rw [if_neg (by rw [hq1]; simp), if_neg (by rw [hq2]; simp), if_pos (Or.inl e1)]
        exact ⟨rfl, rfl⟩
      have hE : (u.toList == r.o.toList) = true := by rw [e1]; simp
      clear e1 hp hq1 hq2
      obtain ⟨y0, y1, y2, y3, y4⟩ := HY1.out.cell
      have z0 := HY1.out.free 0
      have z1 := HY1.out.free 1
      have z2 := HY1.out.free 2
      have z3 := HY1.out.free 3
      have z4 := HY1.out.free 4
      go_wp2
      obtain ⟨cs, hcs, hblk⟩ := HY1.out.put noRt (.slice none 0 0) (.slice none 0 0)
      have hbl := BoxAt.put_below (b := w.heap.size + 1) HB1.out (by omega) noRt (.slice none 0 0) (.slice none 0 0)
      subst hcs
      refine bodyPost_ret (results_ct rfl _ _ (w.heap.size + 1) 26 _ (0, 0) _ rfl hblk Tryd.underlying26 rfl (by kernel_rfl)) rfl ?_
      obtain ⟨R, er⟩ := R
      obtain ⟨rfl, rfl⟩ := (show Hid (R = noRt ∧ er = 5) from HN).out
      exact ⟨_, _, rfl, Kd.R_nil _ _ _ _ _, Kd.R_nil _ _ _ _ _, hbl⟩
    · have hE : (u.toList == r.o.toList) = false := by rw [is_eq]; exact decide_eq_false e1
      have HO := Lib.hid (other_call r u A c A' c' w1 HS.out (Kd.C_below HC1.out HB1.out) h2 (Kd.C_below HC3.out HB1.out) h4)
      rw [searchB_eq hp.2.2.2.2.1, searchB_eq hp.2.2.2.2.2.1] at HO
      have HP := Lib.hid hp
      have HE1 := Lib.hid e1
      have HQ := Lib.hid (And.intro hq1 hq2)
      clear e1 hp hq1 hq2
      cases hoo : (decide (u ∈ r.rs) || decide (u ∈ r.ws)) with
      | true =>
        rw [hoo] at HO
        have HN : Hid (R.1 = noRt ∧ R.2 = 5) := by
          rw [← HR.out]
          unfold grantF
          rw [if_neg (by rw [HQ.out.1]; simp), if_neg (by rw [HQ.out.2]; simp), if_pos (by simpa [HE1.out] using hoo)]
          exact ⟨rfl, rfl⟩
        clear hoo
        go_wp2_with fail
        refine HO.out.mono ?_
        rintro e w2 ⟨rfl, hb⟩
        have HB2 := Lib.hid (below_step HB1.out hb)
        have HY2 := Lib.hid (HY1.out.below hb)
        clear hb HO HY1 HB1 x0 x1 x2 x3 x4
        obtain ⟨y0, y1, y2, y3, y4⟩ := HY2.out.cell
        have z0 := HY2.out.free 0
        have z1 := HY2.out.free 1
        have z2 := HY2.out.free 2
        have z3 := HY2.out.free 3
        have z4 := HY2.out.free 4
        go_wp2
        obtain ⟨cs, hcs, hblk⟩ := HY2.out.put noRt (.slice none 0 0) (.slice none 0 0)
        have hbl := BoxAt.put_below (b := w.heap.size + 1) HB2.out (by omega) noRt (.slice none 0 0) (.slice none 0 0)
        subst hcs
        refine bodyPost_ret (results_ct rfl _ _ (w.heap.size + 1) 26 _ (0, 0) _ rfl hblk Tryd.underlying26 rfl (by kernel_rfl)) rfl ?_
        obtain ⟨R, er⟩ := R
        obtain ⟨rfl, rfl⟩ := (show Hid (R = noRt ∧ er = 5) from HN).out
        exact ⟨_, _, rfl, Kd.R_nil _ _ _ _ _, Kd.R_nil _ _ _ _ _, hbl⟩
      | false =>
        rw [hoo] at HO
        have hno : u ∉ r.rs ∧ u ∉ r.ws := by simpa using hoo
        have HNO := Lib.hid hno
        clear hoo hno
        go_wp2_with fail
        refine HO.out.mono ?_
        rintro e w2 ⟨rfl, hb⟩
        have HB2 := Lib.hid (below_step HB1.out hb)
        have HY2 := Lib.hid (HY1.out.below hb)
        have HX2 := Lib.hid (HX1.out.below hb)
        clear hb HO HY1 HB1 HX1 x0 x1 x2 x3 x4
        obtain ⟨x0, x1, x2, x3, x4⟩ := HX2.out.cell
        have hlen : r.rs.length + r.ws.length ≤ 5 := HP.out.2.2.2.1
        by_cases h5 : r.rs.length + r.ws.length = 5
        · have HN : Hid (R.1 = noRt ∧ R.2 = 10) := by
            rw [← HR.out]
            unfold grantF
            rw [if_neg (by rw [HQ.out.1]; simp), if_neg (by rw [HQ.out.2]; simp), if_neg (by rintro (h | h | h); exact HE1.out h; exact HNO.out.1 h; exact HNO.out.2 h), if_pos (by omega)]
            exact ⟨rfl, rfl⟩
          have hge : (r.rs.length : Int) + (r.ws.length : Int) ≥ 5 := by omega
          clear h5
          obtain ⟨y0, y1, y2, y3, y4⟩ := HY2.out.cell
          have z0 := HY2.out.free 0
          have z1 := HY2.out.free 1
          have z2 := HY2.out.free 2
          have z3 := HY2.out.free 3
          have z4 := HY2.out.free 4
          go_wp2
          obtain ⟨cs, hcs, hblk⟩ := HY2.out.put noRt (.slice none 0 0) (.slice none 0 0)
          have hbl := BoxAt.put_below (b := w.heap.size + 1) HB2.out (by omega) noRt (.slice none 0 0) (.slice none 0 0)
          subst hcs
          refine bodyPost_ret (results_ct rfl _ _ (w.heap.size + 1) 26 _ (0, 0) _ rfl hblk Tryd.underlying26 rfl (by kernel_rfl)) rfl ?_
          obtain ⟨R, er⟩ := R
          obtain ⟨rfl, rfl⟩ := (show Hid (R = noRt ∧ er = 10) from HN).out
          exact ⟨_, _, rfl, Kd.R_nil _ _ _ _ _, Kd.R_nil _ _ _ _ _, hbl⟩
        · have hge : ¬ (r.rs.length : Int) + (r.ws.length : Int) ≥ 5 := by omega
          have hlt5 : r.rs.length + r.ws.length < 5 := by omega
          clear hlen h5
          have l1 : r.rs.length ≤ 1000000 := by omega
          have l2 : r.ws.length ≤ 1000000 := by omega
          go_wp2_with fail
          have HBd := Lib.hid (below_drew HB2.out)
          have HXd : Hid (BoxAt w2.drew w.heap.size r (.slice A r.rs.length c) (.slice A' r.ws.length c')) := HX2.out
          have HYd : Hid (BoxAt w2.drew (w.heap.size + 1) noRt (.slice none 0 0) (.slice none 0 0)) := HY2.out
          go_region_with
            (first
              | (go_at_call 33; (with_reducible refine (clone_any A c r.rs w2.drew (Kd.C_below HC1.out HBd.out) l1).mono ?_); rintro e w3 ⟨v3, rfl, ho3, hb3⟩; obtain ⟨A3, c3, rfl, _⟩ := own_C ho3; have HO3 := Lib.hid ho3; have HB3 := Lib.hid hb3; have HX3 := Lib.hid (HXd.out.below hb3); have HC33 := Lib.hid (Kd.C_below HC3.out (below_step HBd.out hb3)); obtain ⟨_, _, _, p3, p4⟩ := HX3.out.cell; clear ho3 hb3)
              | (go_at_call 33; (with_reducible refine (clone_any A' c' r.ws w3 HC33.out l2).mono ?_); rintro e w4 ⟨v4, rfl, ho4, hb4⟩; obtain ⟨A4, c4, rfl, _⟩ := own_C ho4; have HO4 := Lib.hid ho4; have HB4 := Lib.hid hb4; have HX4 := Lib.hid (HX3.out.below hb4); clear p3 p4; obtain ⟨_, _, _, q3, q4⟩ := HX4.out.cell; have z3 := HX4.out.free 3; have z4 := HX4.out.free 4; clear ho4 hb4))
          all_goals
            have hst := St.start (l3 := r.rs) (l4 := r.ws) HBd.out HXd.out HYd.out HO3.out HB3.out HO4.out HB4.out
            generalize ((w4.setCell ⟨w.heap.size, 3, none⟩ (.slice A3 r.rs.length c3)).setCell ⟨w.heap.size, 4, none⟩ (.slice A4 r.ws.length c4)) = W5 at hst ⊢
            have HST := Lib.hid hst
            clear hst HO3 HB3 HO4 HB4 HX3 HX4 HC33 q3 q4 z3 z4 x0 x1 x2 x3 x4 HBd HXd HYd HB2 HX2 HY2
            obtain ⟨x0, x1, x2, x3, x4⟩ := HST.out.box.cell
            cases wr with
            | false =>
              have HPL := Lib.hid (place_call r.rs u A3 c3 _ W5 l1 HST.out.own3)
              go_wp2_with fail
              refine HPL.out.mono ?_
              rintro e w6 ⟨rfl, hb⟩
              have HS6 := Lib.hid (HST.out.below hb)
              clear hb HPL HST x0 x1 x2 x3 x4
              obtain ⟨x0, x1, x2, x3, x4⟩ := HS6.out.box.cell
              have HIN := insert_any w6 (w.heap.size + 2) (.slice A3 r.rs.length c3) r.rs (searchN r.rs u) u HS6.out.own3 (by obtain ⟨cs, _, h⟩ := HS6.out.res; have := blk_lt h; omega) (search_le HP.out.2.2.2.2.1) l1
              rw [ins_take HP.out.2.2.2.2.1] at HIN
              have HIN := Lib.hid HIN
              go_wp2_with fail
              refine HIN.out.mono ?_
              rintro e w7 ⟨v', rfl, ho7, hg7, hat7⟩
              have HN : Hid (R = (⟨r.o, r.f, r.e, insL r.rs u, r.ws⟩, 0)) := by
                rw [← HR.out]
                unfold grantF
                rw [if_neg (by rw [HQ.out.1]; simp), if_neg (by rw [HQ.out.2]; simp), if_neg (by rintro (h | h | h); exact HE1.out h; exact HNO.out.1 h; exact HNO.out.2 h), if_neg (by omega)]
                rfl
              obtain ⟨A7, c7, rfl, _⟩ := own_C ho7
              have HX7 := Lib.hid (HS6.out.box.grown hg7 (own_not HS6.out.own3 (by omega)))
              have HY7 := Lib.hid (HS6.out.res.grown hg7 (own_not HS6.out.own3 (by omega)))
              have HS7 := Lib.hid (HS6.out.set3 hg7 ho7 hat7)
              clear ho7 hg7 hat7 HIN HS6 x0 x1 x2 x3 x4
              obtain ⟨x0, x1, x2, x3, x4⟩ := HX7.out.cell
              have f3 := HX7.out.free 3
              obtain ⟨y0, y1, y2, y3, y4⟩ := HY7.out.cell
              have z0 := HY7.out.free 0
              have z1 := HY7.out.free 1
              have z2 := HY7.out.free 2
              have z3 := HY7.out.free 3
              have z4 := HY7.out.free 4
              go_wp2
              obtain ⟨cs, hcs, hblk⟩ := HS7.out.res.put ⟨r.o, r.f, r.e, insL r.rs u, r.ws⟩ (.slice A7 (insL r.rs u).length c7) (.slice A4 r.ws.length c4)
              have hbl := BoxAt.put_below (b := w.heap.size + 1) HS7.out.bel (by omega) ⟨r.o, r.f, r.e, insL r.rs u, r.ws⟩ (.slice A7 (insL r.rs u).length c7) (.slice A4 r.ws.length c4)
              subst hcs
              refine bodyPost_ret (results_ct rfl _ _ (w.heap.size + 1) 26 _ (0, 0) _ rfl hblk Tryd.underlying26 rfl (by kernel_rfl)) rfl ?_
              have hrw := HS7.out.fin (.string r.o) (.string r.f) (.int .i64 r.e) (.slice A7 (insL r.rs u).length c7) (.slice A4 r.ws.length c4)
              obtain rfl := HN.out
              exact ⟨_, _, rfl, hrw.1, hrw.2, hbl⟩
            | true =>
              have HPL := Lib.hid (place_call r.ws u A4 c4 _ W5 l2 HST.out.own4)
              go_wp2_with fail
              refine HPL.out.mono ?_
              rintro e w6 ⟨rfl, hb⟩
              have HS6 := Lib.hid (HST.out.below hb)
              clear hb HPL HST x0 x1 x2 x3 x4
              obtain ⟨x0, x1, x2, x3, x4⟩ := HS6.out.box.cell
              have HIN := insert_any w6 (w.heap.size + 2) (.slice A4 r.ws.length c4) r.ws (searchN r.ws u) u HS6.out.own4 (by obtain ⟨cs, _, h⟩ := HS6.out.res; have := blk_lt h; omega) (search_le HP.out.2.2.2.2.2.1) l2
              rw [ins_take HP.out.2.2.2.2.2.1] at HIN
              have HIN := Lib.hid HIN
              go_wp2_with fail
              refine HIN.out.mono ?_
              rintro e w7 ⟨v', rfl, ho7, hg7, hat7⟩
              have HN : Hid (R = (⟨r.o, r.f, r.e, r.rs, insL r.ws u⟩, 0)) := by
                rw [← HR.out]
                unfold grantF
                rw [if_neg (by rw [HQ.out.1]; simp), if_neg (by rw [HQ.out.2]; simp), if_neg (by rintro (h | h | h); exact HE1.out h; exact HNO.out.1 h; exact HNO.out.2 h), if_neg (by omega)]
                rfl
              obtain ⟨A7, c7, rfl, _⟩ := own_C ho7
              have HX7 := Lib.hid (HS6.out.box.grown hg7 (own_not HS6.out.own4 (by omega)))
              have HY7 := Lib.hid (HS6.out.res.grown hg7 (own_not HS6.out.own4 (by omega)))
              have HS7 := Lib.hid (HS6.out.set4 hg7 ho7 hat7)
              clear ho7 hg7 hat7 HIN HS6 x0 x1 x2 x3 x4
              obtain ⟨x0, x1, x2, x3, x4⟩ := HX7.out.cell
              have f3 := HX7.out.free 4
              obtain ⟨y0, y1, y2, y3, y4⟩ := HY7.out.cell
              have z0 := HY7.out.free 0
              have z1 := HY7.out.free 1
              have z2 := HY7.out.free 2
              have z3 := HY7.out.free 3
              have z4 := HY7.out.free 4
              go_wp2
              obtain ⟨cs, hcs, hblk⟩ := HS7.out.res.put ⟨r.o, r.f, r.e, r.rs, insL r.ws u⟩ (.slice A3 r.rs.length c3) (.slice A7 (insL r.ws u).length c7)
              have hbl := BoxAt.put_below (b := w.heap.size + 1) HS7.out.bel (by omega) ⟨r.o, r.f, r.e, r.rs, insL r.ws u⟩ (.slice A3 r.rs.length c3) (.slice A7 (insL r.ws u).length c7)
              subst hcs
              refine bodyPost_ret (results_ct rfl _ _ (w.heap.size + 1) 26 _ (0, 0) _ rfl hblk Tryd.underlying26 rfl (by kernel_rfl)) rfl ?_
              have hrw := HS7.out.fin (.string r.o) (.string r.f) (.int .i64 r.e) (.slice A3 r.rs.length c3) (.slice A7 (insL r.ws u).length c7)
              obtain rfl := HN.out
              exact ⟨_, _, rfl, hrw.1, hrw.2, hbl⟩
  · have HN : Hid ((R.1 = noRt) ∧ R.2 = askedF r u) := by
      rw [← HR.out]
      unfold grantF
      unfold askedF at ha ⊢
      cases q1 : rightR r with
      | false => exact ⟨rfl, rfl⟩
      | true =>
        cases q2 : rightN (bytes u) with
        | false => exact ⟨rfl, rfl⟩
        | true => rw [q1, q2] at ha; exact absurd rfl ha
    obtain ⟨y0, y1, y2, y3, y4⟩ := HY1.out.cell
    have z0 := HY1.out.free 0
    have z1 := HY1.out.free 1
    have z2 := HY1.out.free 2
    have z3 := HY1.out.free 3
    have z4 := HY1.out.free 4
    generalize askedF r u = ER at *
    have hE1 : ((ER : Int) == 0) = false := by rw [beq_eq_false_iff_ne]; exact ha
    have hE2 : ((ER : Int) != 0) = true := by rw [bne_iff_ne]; exact ha
    clear ha
    go_wp2
    obtain ⟨cs, hcs, hblk⟩ := HY1.out.put noRt (.slice none 0 0) (.slice none 0 0)
    have hbl := BoxAt.put_below (b := w.heap.size + 1) HB1.out (by omega) noRt (.slice none 0 0) (.slice none 0 0)
    subst hcs
    refine bodyPost_ret (results_ct rfl _ _ (w.heap.size + 1) 26 _ (0, 0) _ rfl hblk Tryd.underlying26 rfl (by kernel_rfl)) rfl ?_
    obtain ⟨R, er⟩ := R
    obtain ⟨rfl, rfl⟩ := HN.out
    exact ⟨_, _, rfl, Kd.R_nil _ _ _ _ _, Kd.R_nil _ _ _ _ _, hbl⟩
end Go.Proofs.YtfhanoloaejmkaaDoor
end
section

section
namespace Go.Proofs.YtfhanoloaejmkaaDoor
open Go.RowKit Go.Proofs.YtfhanoloaejmkaaDoorW.PrintWords Go.Proofs.YtfhanoloaejmkaaDoor.Ref
set_option linter.unusedVariables false
set_option linter.unusedSimpArgs false
structure RowsAt (w : World) (B : Nat) (r : Rt) (A : Option Addr) (c : Nat) (A' : Option Addr) (c' : Nat) : Prop where
  h1 : Kd.C Kd.string w A r.rs.length r.rs
  h2 : r.rs.length ≤ c
  h3 : Kd.C Kd.string w A' r.ws.length r.ws
  h4 : r.ws.length ≤ c'
  h5 : ∀ ad, A = some ad → B ≤ ad.block
  h6 : ∀ ad, A' = some ad → B ≤ ad.block
theorem RowsAt.below {w w1 : World} {B : Nat} {r : Rt} {A : Option Addr} {c : Nat} {A' : Option Addr} {c' : Nat} (h : RowsAt w B r A c A' c') (hb : Below w.heap.size w w1) : RowsAt w1 B r A c A' c' :=
  ⟨Kd.C_below h.h1 hb, h.h2, Kd.C_below h.h3 hb, h.h4, h.h5, h.h6⟩
theorem RowsAt.lower {w : World} {B B' : Nat} {r : Rt} {A : Option Addr} {c : Nat} {A' : Option Addr} {c' : Nat} (h : RowsAt w B r A c A' c') (hb : B' ≤ B) : RowsAt w B' r A c A' c' :=
  ⟨h.h1, h.h2, h.h3, h.h4, fun ad e => Nat.le_trans hb (h.h5 ad e), fun ad e => Nat.le_trans hb (h.h6 ad e)⟩
theorem C_far {w : World} {A : Option Addr} {l : List ByteArray} (h : Kd.C Kd.string w A l.length l) {p : Addr} (hp : ∀ ad, A = some ad → ad.block ≠ p.block) (u : Value) : Kd.C Kd.string (w.setCell p u) A l.length l := by
  refine ⟨h.1, h.2.1, fun hn => ?_⟩
  obtain ⟨ad, rfl, hc⟩ := h.2.2 hn
  refine ⟨ad, rfl, fun j q hj => ?_⟩
  obtain ⟨cs, hl, hK, hz⟩ := hc j q hj
  refine ⟨cs, hl, hK, fun i x hx => ?_⟩
  rw [← hz i x hx]
  refine World.cell?_of_block (Below.heap_setCell w p u _ ?_)
  rw [add_block]
  exact hp ad rfl
theorem RowsAt.far {w : World} {B : Nat} {r : Rt} {A : Option Addr} {c : Nat} {A' : Option Addr} {c' : Nat} (h : RowsAt w B r A c A' c') {p : Addr} (hp : p.block < B) (u : Value) : RowsAt (w.setCell p u) B r A c A' c' :=
  ⟨C_far h.h1 (fun ad e => by have := h.h5 ad e; omega) u, h.h2, C_far h.h3 (fun ad e => by have := h.h6 ad e; omega) u, h.h4, h.h5, h.h6⟩
theorem RowsAt.put {w : World} {B b : Nat} {r : Rt} {A : Option Addr} {c : Nat} {A' : Option Addr} {c' : Nat} (h : RowsAt w B r A c A' c') (hp : b < B) (a1 a2 a3 a4 a5 : Value) :
    RowsAt (((((w.setCell ⟨b, 0, none⟩ a1).setCell ⟨b, 1, none⟩ a2).setCell ⟨b, 2, none⟩ a3).setCell ⟨b, 3, none⟩ a4).setCell ⟨b, 4, none⟩ a5) B r A c A' c' :=
  ((((h.far (p := ⟨b, 0, none⟩) hp a1).far (p := ⟨b, 1, none⟩) hp a2).far (p := ⟨b, 2, none⟩) hp a3).far (p := ⟨b, 3, none⟩) hp a4).far (p := ⟨b, 4, none⟩) hp a5
theorem C_nil (w : World) : Kd.C Kd.string w none ([] : List ByteArray).length [] := ⟨rfl, by simp, fun h => absurd h (Nat.lt_irrefl 0)⟩
theorem RowsAt.no (w : World) (B : Nat) : RowsAt w B noRt none 0 none 0 := ⟨C_nil w, Nat.le_refl _, C_nil w, Nat.le_refl _, (fun _ e => by cases e), (fun _ e => by cases e)⟩
theorem RowsAt.nil (w : World) (B : Nat) (o f : ByteArray) (e : Int) : RowsAt w B ⟨o, f, e, [], []⟩ none 0 none 0 := ⟨C_nil w, Nat.le_refl _, C_nil w, Nat.le_refl _, (fun _ e => by cases e), (fun _ e => by cases e)⟩
def Told (w : World) (R : Rt × Int) (e : Ending) (w' : World) : Prop := ∃ A c A' c', e = .returned (.tuple #[.agg #[.string R.1.o, .string R.1.f, .int .i64 R.1.e, .slice A R.1.rs.length c, .slice A' R.1.ws.length c'], .int .i64 R.2]) ∧ RowsAt w' w.heap.size R.1 A c A' c' ∧ Below w.heap.size w w'
theorem told_of {w : World} {R : Rt × Int} {e : Ending} {w' : World} {ok1 ok2 : Nat → Prop} {v3 v4 : Value} (he : e = .returned (.tuple #[.agg #[.string R.1.o, .string R.1.f, .int .i64 R.1.e, v3, v4], .int .i64 R.2])) (h3 : Kd.R Kd.string 9 w' w.heap.size ok1 v3 R.1.rs) (h4 : Kd.R Kd.string 9 w' w.heap.size ok2 v4 R.1.ws) (hb : Below w.heap.size w w') : Told w R e w' := by
  obtain ⟨A, c, rfl, a1, a2⟩ := Kd.R_reads h3
  obtain ⟨A', c', rfl, b1, b2⟩ := Kd.R_reads h4
  obtain ⟨_, inner, ho, _⟩ := h3
  obtain ⟨_, inner', ho', _⟩ := h4
  exact ⟨A, c, A', c', he, ⟨a2, a1, b2, b1, fun ad e => own_base ho ad.block (by rw [e]; rfl), fun ad e => own_base ho' ad.block (by rw [e]; rfl)⟩, hb⟩
theorem grant_call (r : Rt) (u : ByteArray) (wr : Bool) (A : Option Addr) (c : Nat) (A' : Option Addr) (c' : Nat) (w : World) (HTB : Aside0 (Tabs w)) (hs : smallR r = true) (hu : u.size ≤ 1000000) {B : Nat} (h : RowsAt w B r A c A' c') :
    Calls Tryd.prog 14 #[.agg #[.string r.o, .string r.f, .int .i64 r.e, .slice A r.rs.length c, .slice A' r.ws.length c'], .string u, .bool wr] w (Told w (grantF r u wr)) :=
  (grant_any r u wr A c A' c' w HTB hs hu h.h1 h.h2 h.h3 h.h4).mono fun e w' ⟨v3, v4, he, h3, h4, hb⟩ => told_of he h3 h4 hb
theorem can_call (r : Rt) (u : ByteArray) (wr : Bool) (A : Option Addr) (c : Nat) (A' : Option Addr) (c' : Nat) (w : World) (HTB : Aside0 (Tabs w)) (hs : smallR r = true) {B : Nat} (h : RowsAt w B r A c A' c') :
    Calls Tryd.prog 16 #[.agg #[.string r.o, .string r.f, .int .i64 r.e, .slice A r.rs.length c, .slice A' r.ws.length c'], .string u, .bool wr] w fun e w' => e = .returned (.bool (canF r u wr)) ∧ Below w.heap.size w w' := by
  obtain ⟨K, hk⟩ := can_ev r u wr hs
  exact PB.rights_Can.calls K r.o r.f r.e A c r.rs A' c' r.ws u wr _ w HTB h.h1 h.h2 h.h3 h.h4 (hk K (Nat.le_refl _))
theorem fixed_C {w : World} {A : Option Addr} {l : List ByteArray} {c : Nat} (h : Kd.C Kd.string w A l.length l) (hc : l.length ≤ c) (B : Nat) : Kd.V Kd.string 9 w B (fun k => k < w.heap.size) (.slice A l.length c) l := by
  exact Kd.V_mk hc (Kd.C_F Kd.heap_string h)
theorem right_call (r : Rt) (A : Option Addr) (c : Nat) (A' : Option Addr) (c' : Nat) (w : World) (HTB : Aside0 (Tabs w)) (hs : smallR r = true) {B : Nat} (h : RowsAt w B r A c A' c') :
    Calls Tryd.prog 17 #[.agg #[.string r.o, .string r.f, .int .i64 r.e, .slice A r.rs.length c, .slice A' r.ws.length c']] w fun e w' => e = .returned (.bool (rightR r)) ∧ Below w.heap.size w w' := by
  obtain ⟨K, hk⟩ := right_ev r hs
  exact PB.rights_Right.calls K r.o r.f r.e _ A c r.rs _ A' c' r.ws _ w HTB (fixed_C h.h1 h.h2 _) (fixed_C h.h3 h.h4 _) (hk K (Nat.le_refl _))
theorem nameRight_call (s : ByteArray) (w : World) (HTB : Aside0 (Tabs w)) (h : s.size ≤ 1000000) : Calls Tryd.prog 21 #[.string s] w fun e w' => e = .returned (.bool (rightN (bytes s))) ∧ Below w.heap.size w w' := right_any s w (by omega) HTB.out
set_option maxHeartbeats 4000000 in
set_option maxRecDepth 100000 in
theorem new_call (o f : ByteArray) (w : World) (HTB : Aside0 (Tabs w)) (ho : o.size ≤ 1000000) (hf : f.size ≤ 1000000) :
    Calls Tryd.prog 11 #[.string o, .string f] w (Told w (newF o f)) := by
  obtain ⟨R, hR⟩ : ∃ R, newF o f = R := ⟨_, rfl⟩
  rw [hR]
  have HR := Lib.hid hR
  clear hR
  go_enter Tryd.func11, Tryd.ntmps11
  have hb0 : Below w.heap.size w (w.alloc (Obj.cells #[Value.string { data := #[] }, Value.string { data := #[] }, Value.int IntKind.i64 0, Value.slice none 0 0, Value.slice none 0 0] 26)) := below_alloc (Below.refl _ _) _
  have hy0 : BoxAt (w.alloc (Obj.cells #[Value.string { data := #[] }, Value.string { data := #[] }, Value.int IntKind.i64 0, Value.slice none 0 0, Value.slice none 0 0] 26)) w.heap.size noRt (.slice none 0 0) (.slice none 0 0) := ⟨_, rfl, heap_new _ _ _ rfl⟩
  have HA := Lib.hid (nameRight_call o _ ⟨HTB.out.below hb0⟩ ho)
  have HB0 := Lib.hid hb0
  have HY0 := Lib.hid hy0
  clear hb0 hy0
  cases h1 : rightN (bytes o) with
  | false =>
    rw [h1] at HA
    have HN : Hid (R = (noRt, 3)) := by
      rw [← HR.out]; unfold newF; rw [h1]; exact Lib.hid rfl
    clear h1
    go_wp2_with fail
    refine HA.out.mono ?_
    rintro e w1 ⟨rfl, hb⟩
    have HB1 := Lib.hid (below_step HB0.out hb)
    have HY1 := Lib.hid (HY0.out.below hb)
    clear hb HB0 HY0 HA
    obtain ⟨y0, y1, y2, y3, y4⟩ := HY1.out.cell
    have z0 := HY1.out.free 0
    have z1 := HY1.out.free 1
    have z2 := HY1.out.free 2
    have z3 := HY1.out.free 3
    have z4 := HY1.out.free 4
    go_wp2
    obtain ⟨cs, hcs, hblk⟩ := HY1.out.put noRt (.slice none 0 0) (.slice none 0 0)
    have hbl := BoxAt.put_below (b := w.heap.size) HB1.out (Nat.le_refl _) noRt (.slice none 0 0) (.slice none 0 0)
    subst hcs
    refine bodyPost_ret (results_ct rfl _ _ w.heap.size 26 _ (0, 0) _ rfl hblk Tryd.underlying26 rfl (by kernel_rfl)) rfl ?_
    obtain rfl := HN.out
    exact ⟨none, 0, none, 0, rfl, RowsAt.nil _ _ _ _ _, hbl⟩
  | true =>
    rw [h1] at HA
    go_wp2_with fail
    refine HA.out.mono ?_
    rintro e w1 ⟨rfl, hb⟩
    have HB1 := Lib.hid (below_step HB0.out hb)
    have HY1 := Lib.hid (HY0.out.below hb)
    clear hb HB0 HY0 HA
    have HA := Lib.hid (nameRight_call f w1 ⟨HTB.out.below HB1.out⟩ hf)
    cases h2 : rightN (bytes f) with
    | false =>
      rw [h2] at HA
      have HN : Hid (R = (noRt, 3)) := by
        rw [← HR.out]; unfold newF; rw [h1, h2]; exact Lib.hid rfl
      clear h1 h2
      go_wp2_with fail
      refine HA.out.mono ?_
      rintro e w2 ⟨rfl, hb⟩
      have HB2 := Lib.hid (below_step HB1.out hb)
      have HY2 := Lib.hid (HY1.out.below hb)
      clear hb HB1 HY1 HA
      obtain ⟨y0, y1, y2, y3, y4⟩ := HY2.out.cell
      have z0 := HY2.out.free 0
      have z1 := HY2.out.free 1
      have z2 := HY2.out.free 2
      have z3 := HY2.out.free 3
      have z4 := HY2.out.free 4
      go_wp2
      obtain ⟨cs, hcs, hblk⟩ := HY2.out.put noRt (.slice none 0 0) (.slice none 0 0)
      have hbl := BoxAt.put_below (b := w.heap.size) HB2.out (Nat.le_refl _) noRt (.slice none 0 0) (.slice none 0 0)
      subst hcs
      refine bodyPost_ret (results_ct rfl _ _ w.heap.size 26 _ (0, 0) _ rfl hblk Tryd.underlying26 rfl (by kernel_rfl)) rfl ?_
      obtain rfl := HN.out
      exact ⟨none, 0, none, 0, rfl, RowsAt.nil _ _ _ _ _, hbl⟩
    | true =>
      rw [h2] at HA
      have HN : Hid (R = (⟨o, f, 0, [], []⟩, 0)) := by
        rw [← HR.out]; unfold newF; rw [h1, h2]; exact Lib.hid rfl
      clear h1 h2
      go_wp2_with fail
      refine HA.out.mono ?_
      rintro e w2 ⟨rfl, hb⟩
      have HB2 := Lib.hid (below_step HB1.out hb)
      have HY2 := Lib.hid (HY1.out.below hb)
      clear hb HB1 HY1 HA
      obtain ⟨y0, y1, y2, y3, y4⟩ := HY2.out.cell
      have z0 := HY2.out.free 0
      have z1 := HY2.out.free 1
      have z2 := HY2.out.free 2
      have z3 := HY2.out.free 3
      have z4 := HY2.out.free 4
      go_wp2
      obtain ⟨cs, hcs, hblk⟩ := HY2.out.put ⟨o, f, 0, [], []⟩ (.slice none 0 0) (.slice none 0 0)
      have hbl := BoxAt.put_below (b := w.heap.size) HB2.out (Nat.le_refl _) ⟨o, f, 0, [], []⟩ (.slice none 0 0) (.slice none 0 0)
      subst hcs
      refine bodyPost_ret (results_ct rfl _ _ w.heap.size 26 _ (0, 0) _ rfl hblk Tryd.underlying26 rfl (by kernel_rfl)) rfl ?_
      obtain rfl := HN.out
      exact ⟨none, 0, none, 0, rfl, RowsAt.nil _ _ _ _ _, hbl⟩
theorem BoxAt.lt {w : World} {b : Nat} {r : Rt} {v3 v4 : Value} (h : BoxAt w b r v3 v4) : b < w.heap.size := by
  obtain ⟨cs, _, h⟩ := h
  exact blk_lt h
theorem box_new (w : World) (r : Rt) (v3 v4 : Value) : BoxAt (w.alloc (Obj.cells #[Value.string r.o, Value.string r.f, Value.int IntKind.i64 r.e, v3, v4] 26)) w.heap.size r v3 v4 := ⟨_, rfl, heap_new _ _ _ rfl⟩
end Go.Proofs.YtfhanoloaejmkaaDoor
end
section
namespace Go.Proofs.YtfhanoloaejmkaaDoor
open Go.Proofs.YtfhanoloaejmkaaDoor.Ref
set_option linter.unusedVariables false
theorem can_of {r : Rt} (h : rightR r = true) (u : ByteArray) (w : Bool) : canF r u w = (decide (u = r.o) || decide (u ∈ r.ws) || !w && decide (u ∈ r.rs)) := by
  unfold canF; rw [h, Bool.true_and]
theorem can_read {r : Rt} (h : rightR r = true) (u : ByteArray) : canF r u false = decide (u = r.o ∨ u ∈ r.rs ∨ u ∈ r.ws) := by
  rw [can_of h]
  by_cases a : u = r.o <;> by_cases b : u ∈ r.rs <;> by_cases c : u ∈ r.ws <;> simp [a, b, c]
theorem can_write {r : Rt} (h : rightR r = true) (u : ByteArray) : canF r u true = decide (u = r.o ∨ u ∈ r.ws) := by
  rw [can_of h]
  by_cases a : u = r.o <;> by_cases c : u ∈ r.ws <;> simp [a, c]
def putIn (r : Rt) (u : ByteArray) (w : Bool) : Rt := if w then ⟨r.o, r.f, r.e, r.rs, insL r.ws u⟩ else ⟨r.o, r.f, r.e, insL r.rs u, r.ws⟩
theorem grant_cases {r : Rt} (h : rightR r = true) {u : ByteArray} (hu : rightN (bytes u) = true) (w : Bool) :
    grantF r u w = if canF r u false = true then (noRt, 5) else if 5 ≤ r.rs.length + r.ws.length then (noRt, 10) else (putIn r u w, 0) := by
  unfold grantF putIn
  rw [if_neg (by rw [h]; simp), if_neg (by rw [hu]; simp), can_read h]
  by_cases c : u = r.o ∨ u ∈ r.rs ∨ u ∈ r.ws
  · rw [if_pos c, if_pos (by simpa using c)]
  · rw [if_neg c, if_neg (show ¬ decide (u = r.o ∨ u ∈ r.rs ∨ u ∈ r.ws) = true by simpa using c)]
theorem put_right {r : Rt} (h : rightR r = true) {u : ByteArray} (hu : rightN (bytes u) = true) (hc : canF r u false = false) (hl : r.rs.length + r.ws.length < 5) (w : Bool) : rightR (putIn r u w) = true := by
  rw [can_read h, decide_eq_false_iff_not] at hc
  obtain ⟨p1, p2, p3, p4, p5, p6, p7, p8, p9⟩ := right_parts h
  have n1 : u ≠ r.o := fun e => hc (Or.inl e)
  have n2 : u ∉ r.rs := fun e => hc (Or.inr (Or.inl e))
  have n3 : u ∉ r.ws := fun e => hc (Or.inr (Or.inr e))
  unfold putIn
  cases w with
  | true =>
    rw [if_pos rfl]
    refine right_mk p1 p2 p3 (by show r.rs.length + (insL r.ws u).length ≤ 5; rw [ins_len]; omega) p5 (ins_rises p6 n3) p7 (fun s hs => ?_) (fun s hs hs2 => ?_)
    · rcases mem_ins.1 hs with rfl | hs
      · exact ⟨hu, n1⟩
      · exact p8 s hs
    · rcases mem_ins.1 hs2 with rfl | hs2
      · exact n2 hs
      · exact p9 s hs hs2
  | false =>
    rw [if_neg (by simp)]
    refine right_mk p1 p2 p3 (by show (insL r.rs u).length + r.ws.length ≤ 5; rw [ins_len]; omega) (ins_rises p5 n2) p6 (fun s hs => ?_) p8 (fun s hs => ?_)
    · rcases mem_ins.1 hs with rfl | hs
      · exact ⟨hu, n1⟩
      · exact p7 s hs
    · rcases mem_ins.1 hs with rfl | hs
      · exact n3
      · exact p9 s hs
theorem put_mem {r : Rt} {u v : ByteArray} {w : Bool} : (v = (putIn r u w).o ↔ v = r.o) ∧ (v ∈ (putIn r u w).rs ↔ (w = false ∧ v = u) ∨ v ∈ r.rs) ∧ (v ∈ (putIn r u w).ws ↔ (w = true ∧ v = u) ∨ v ∈ r.ws) := by
  unfold putIn
  cases w with
  | true => rw [if_pos rfl]; exact ⟨Iff.rfl, by simp, by rw [mem_ins]; simp⟩
  | false => rw [if_neg (by simp)]; exact ⟨Iff.rfl, by rw [mem_ins]; simp, by simp⟩
theorem put_can {r : Rt} {u : ByteArray} {w : Bool} (h : rightR r = true) (h2 : rightR (putIn r u w) = true) (hc : canF r u false = false) :
    canF (putIn r u w) u false = true ∧ canF (putIn r u w) u true = w ∧ (putIn r u w).e = r.e ∧ (putIn r u w).o = r.o ∧ (putIn r u w).f = r.f ∧ ∀ v, v ≠ u → ∀ b, canF (putIn r u w) v b = canF r v b := by
  rw [can_read h, decide_eq_false_iff_not] at hc
  have n1 : u ≠ r.o := fun e => hc (Or.inl e)
  have n3 : u ∉ r.ws := fun e => hc (Or.inr (Or.inr e))
  refine ⟨?_, ?_, by unfold putIn; split <;> rfl, by unfold putIn; split <;> rfl, by unfold putIn; split <;> rfl, fun v hv b => ?_⟩
  · rw [can_read h2]
    refine decide_eq_true ?_
    cases w with
    | true => exact Or.inr (Or.inr (put_mem.2.2.2 (Or.inl ⟨rfl, rfl⟩)))
    | false => exact Or.inr (Or.inl (put_mem.2.1.2 (Or.inl ⟨rfl, rfl⟩)))
  · rw [can_write h2]
    cases w with
    | true => exact decide_eq_true (Or.inr (put_mem.2.2.2 (Or.inl ⟨rfl, rfl⟩)))
    | false =>
      refine decide_eq_false ?_
      rintro (e | e)
      · exact n1 (put_mem.1.1 e)
      · rcases put_mem.2.2.1 e with ⟨e, _⟩ | e
        · cases e
        · exact n3 e
  · have q1 : decide (v = (putIn r u w).o) = decide (v = r.o) := decide_eq_decide.2 put_mem.1
    have q2 : decide (v ∈ (putIn r u w).rs) = decide (v ∈ r.rs) := decide_eq_decide.2 (put_mem.2.1.trans ⟨fun e => e.resolve_left fun e => hv e.2, Or.inr⟩)
    have q3 : decide (v ∈ (putIn r u w).ws) = decide (v ∈ r.ws) := decide_eq_decide.2 (put_mem.2.2.trans ⟨fun e => e.resolve_left fun e => hv e.2, Or.inr⟩)
    rw [can_of h2, can_of h, q1, q2, q3]
def struck (r : Rt) (u : ByteArray) : Rt := ⟨r.o, r.f, r.e + 1, dropL r.rs u, dropL r.ws u⟩
theorem revoke_cases {r : Rt} (h : rightR r = true) {u : ByteArray} (hu : rightN (bytes u) = true) :
    revokeF r u = if canF r u false = true ∧ u ≠ r.o then (if r.e = 7 then (noRt, 9) else (struck r u, 0)) else (noRt, 4) := by
  obtain ⟨p1, p2, p3, p4, p5, p6, p7, p8, p9⟩ := right_parts h
  unfold revokeF struck
  rw [if_neg (by rw [h]; simp), if_neg (by rw [hu]; simp), can_read h]
  by_cases c : u ∈ r.rs ∨ u ∈ r.ws
  · have n : u ≠ r.o := c.elim (fun e => (p7 u e).2) (fun e => (p8 u e).2)
    rw [if_neg (fun e => e c), if_pos (show decide (u = r.o ∨ u ∈ r.rs ∨ u ∈ r.ws) = true ∧ u ≠ r.o from ⟨decide_eq_true (Or.inr c), n⟩)]
  · rw [if_pos c, if_neg]
    rintro ⟨e, n⟩
    rcases of_decide_eq_true e with e | e
    · exact n e
    · exact c e
theorem struck_right {r : Rt} (h : rightR r = true) (u : ByteArray) (h7 : r.e ≠ 7) : rightR (struck r u) = true := by
  obtain ⟨p1, p2, p3, p4, p5, p6, p7, p8, p9⟩ := right_parts h
  have l1 := drop_len r.rs u
  have l2 := drop_len r.ws u
  refine right_mk p1 p2 (by show 0 ≤ r.e + 1 ∧ r.e + 1 ≤ 7; omega) (by show (dropL r.rs u).length + (dropL r.ws u).length ≤ 5; omega) (drop_rises p5) (drop_rises p6) (fun s hs => p7 s (mem_drop.1 hs).1) (fun s hs => p8 s (mem_drop.1 hs).1) (fun s hs hs2 => p9 s (mem_drop.1 hs).1 (mem_drop.1 hs2).1)
theorem name_small {s : ByteArray} (h : rightN (bytes s) = true) : s.size ≤ 1000000 := by
  have := right_len h
  rw [bytes_length] at this; omega
theorem right_small {r : Rt} (h : rightR r = true) : smallR r = true := by
  obtain ⟨p1, p2, p3, p4, p5, p6, p7, p8, p9⟩ := right_parts h
  exact small_mk (name_small p1) (name_small p2) (by omega) (by omega) (by omega) (fun s hs => name_small (p7 s hs).1) (fun s hs => name_small (p8 s hs).1)
theorem small_no : smallR noRt = true := by decide +kernel
theorem grant_small {r : Rt} {u : ByteArray} {w : Bool} : smallR (grantF r u w).1 = true := by
  cases h : rightR r with
  | false => unfold grantF; rw [if_pos h]; exact small_no
  | true =>
    cases hu : rightN (bytes u) with
    | false => unfold grantF; rw [if_neg (by rw [h]; simp), if_pos hu]; exact small_no
    | true =>
      rw [grant_cases h hu]
      split
      · exact small_no
      · rename_i c
        split
        · exact small_no
        · rename_i d
          exact right_small (put_right h hu (by simpa using c) (by omega) w)
end Go.Proofs.YtfhanoloaejmkaaDoor
end
section
namespace Go.Proofs.YtfhanoloaejmkaaDoor
open Go.RowKit Go.Proofs.YtfhanoloaejmkaaDoorW.PrintWords Go.Proofs.YtfhanoloaejmkaaDoor.Ref
set_option linter.unusedVariables false
set_option linter.unusedSimpArgs false
def pickN (c : Int) (n : Nat) : Nat := if c < 0 then ((-(c + 1)).toNat) % n else c.toNat % n
theorem pick_lt (c : Int) {n : Nat} (h : 0 < n) : pickN c n < n := by unfold pickN; split <;> exact Nat.mod_lt _ h
theorem pick_call (c : Int) (n : Nat) (w : World) (h0 : 0 < n) (hn : n ≤ 1000000) (hc : -9223372036854775808 ≤ c ∧ c ≤ 9223372036854775807) :
    Calls Tryd.prog 13 #[.int .i64 c, .int .i64 n] w fun e w' => e = .returned (.int .i64 (pickN c n : Nat)) ∧ Below w.heap.size w w' := by
  refine (PA.letterlocklaw7_pick.calls c n _ w ?_).mono fun e w' h => ⟨h.1, ?_⟩
  · unfold PA.letterlocklaw7_pick.f pickN
    by_cases h : c < 0
    · rw [if_pos h, if_neg (by omega), if_pos h]
      rw [w64 (n := c + 1) (by omega) (by omega), w64 (n := -(c + 1)) (by omega) (by omega)]
      refine congrArg some ?_
      rw [Int.tmod_eq_emod_of_nonneg (by omega)]
      have : ((-(c + 1)).toNat : Int) = -(c + 1) := by omega
      rw [Int.natCast_emod, this]
    · rw [if_neg h, if_neg (by omega), if_neg h]
      refine congrArg some ?_
      rw [Int.tmod_eq_emod_of_nonneg (by omega)]
      have : (c.toNat : Int) = c := by omega
      rw [Int.natCast_emod, this]
  · have := h.2
    first | exact this | exact this.below
def names : List ByteArray := [⟨#[97, 110, 110, 97]⟩, ⟨#[98, 101, 110]⟩, ⟨#[99, 121]⟩, ⟨#[100, 111, 114, 97]⟩, ⟨#[101, 109, 105, 108]⟩, ⟨#[195, 164, 109, 105, 108]⟩, ⟨#[102, 97, 45, 49]⟩, ⟨#[103]⟩]
def whoF (c : Int) : ByteArray := nth names (pickN c 8)
theorem names_row (k : Nat) (hk : k < 8) : (#[Value.string { data := #[97, 110, 110, 97] }, Value.string { data := #[98, 101, 110] }, Value.string { data := #[99, 121] }, Value.string { data := #[100, 111, 114, 97] }, Value.string { data := #[101, 109, 105, 108] }, Value.string { data := #[195, 164, 109, 105, 108] }, Value.string { data := #[102, 97, 45, 49] }, Value.string { data := #[103] }] : Array Value)[k]? = some (.string (nth names k)) := by
  match k, hk with
  | 0, _ => rfl
  | 1, _ => rfl
  | 2, _ => rfl
  | 3, _ => rfl
  | 4, _ => rfl
  | 5, _ => rfl
  | 6, _ => rfl
  | 7, _ => rfl
  | k + 8, h => exact absurd h (by omega)
set_option maxHeartbeats 4000000 in
set_option maxRecDepth 100000 in
theorem who_call (c : Int) (w : World) (hc : -9223372036854775808 ≤ c ∧ c ≤ 9223372036854775807) :
    Calls Tryd.prog 12 #[.int .i64 c] w fun e w' => e = .returned (.string (whoF c)) ∧ Below w.heap.size w w' := by
  have hk := pick_lt c (n := 8) (by omega)
  have HP : Hid (∀ W : World, Calls Tryd.prog 13 #[.int .i64 c, .int .i64 8] W fun e w' => e = .returned (.int .i64 (pickN c 8 : Nat)) ∧ Below W.heap.size W w') := fun W => pick_call c 8 W (by omega) (by omega) hc
  unfold whoF
  generalize pickN c 8 = k at *
  obtain ⟨x, hx⟩ : ∃ x, nth names k = x := ⟨_, rfl⟩
  have HX := Lib.hid hx
  rw [hx]
  clear hx
  go_enter Tryd.func12, Tryd.ntmps12
  have hb0 : Below w.heap.size w (w.alloc (Obj.cells #[Value.string { data := #[97, 110, 110, 97] }, Value.string { data := #[98, 101, 110] }, Value.string { data := #[99, 121] }, Value.string { data := #[100, 111, 114, 97] }, Value.string { data := #[101, 109, 105, 108] }, Value.string { data := #[195, 164, 109, 105, 108] }, Value.string { data := #[102, 97, 45, 49] }, Value.string { data := #[103] }] 9)) := below_alloc (Below.refl _ _) _
  have hx0 : (w.alloc (Obj.cells #[Value.string { data := #[97, 110, 110, 97] }, Value.string { data := #[98, 101, 110] }, Value.string { data := #[99, 121] }, Value.string { data := #[100, 111, 114, 97] }, Value.string { data := #[101, 109, 105, 108] }, Value.string { data := #[195, 164, 109, 105, 108] }, Value.string { data := #[102, 97, 45, 49] }, Value.string { data := #[103] }] 9)).heap[w.heap.size]? = some (.cells #[Value.string { data := #[97, 110, 110, 97] }, Value.string { data := #[98, 101, 110] }, Value.string { data := #[99, 121] }, Value.string { data := #[100, 111, 114, 97] }, Value.string { data := #[101, 109, 105, 108] }, Value.string { data := #[195, 164, 109, 105, 108] }, Value.string { data := #[102, 97, 45, 49] }, Value.string { data := #[103] }] 9 (0, 0)) := heap_new _ _ _ rfl
  have HB0 := Lib.hid hb0
  have HX0 := Lib.hid hx0
  clear hb0 hx0
  go_wp2_with fail
  refine (HP.out _).mono ?_
  rintro e w1 ⟨rfl, hb⟩
  have HB1 := Lib.hid (below_step HB0.out hb)
  have hck : w1.cell? ⟨w.heap.size, k, none⟩ = some (.string x) := by
    rw [blk_cell (blk_below HX0.out hb) k]
    rw [← HX.out]
    exact names_row k hk
  clear hb HB0 HX0 HP
  go_wp2
  go_ret
  exact ⟨rfl, HB1.out⟩
def anna : ByteArray := ⟨#[97, 110, 110, 97]⟩
def notes : ByteArray := ⟨#[110, 111, 116, 101, 115]⟩
def ben : ByteArray := ⟨#[98, 101, 110]⟩
def r0 : Rt := ⟨anna, notes, 0, [], []⟩
theorem new0 : newF anna notes = (r0, 0) := by
  have h1 : rightN (bytes anna) = true := by decide +kernel
  have h2 : rightN (bytes notes) = true := by decide +kernel
  unfold newF
  rw [h1, h2]; rfl
theorem right0 : rightR r0 = true := by decide +kernel
theorem small0 : smallR r0 = true := by decide +kernel
theorem nameben : rightN (bytes ben) = true := by decide +kernel
def r1 : Rt := ⟨anna, notes, 0, [ben], []⟩
theorem grant0 : grantF r0 ben false = (r1, 0) := by
  unfold grantF
  rw [if_neg (by rw [right0]; simp), if_neg (by rw [nameben]; simp), if_neg (by decide), if_neg (by decide)]
  rfl
theorem right1 : rightR r1 = true := by decide +kernel
theorem small1 : smallR r1 = true := by decide +kernel
theorem can1 : canF r1 ben false = true := by unfold canF; rw [right1]; decide
theorem can2 : canF r1 ben true = false := by unfold canF; rw [right1]; decide
theorem can3 : canF r1 anna true = true := by unfold canF; rw [right1]; decide
set_option maxHeartbeats 4000000 in
set_option maxRecDepth 100000 in
theorem shown_call (w : World) (HTB : Aside0 (Tabs w)) : Calls Tryd.prog 10 #[] w fun e w' => e = .returned (.bool true) ∧ Below w.heap.size w w' := by
  have H1 := Lib.hid (new_call anna notes w HTB (by decide +kernel) (by decide +kernel))
  rw [new0] at H1
  go_enter Tryd.func10, Tryd.ntmps10
  go_wp2_with fail
  refine H1.out.mono ?_
  rintro e w1 ⟨A1, c1, A2, c2, rfl, hr1, hb1⟩
  have hb1' := below_alloc hb1 (Obj.cells #[Value.string r0.o, Value.string r0.f, Value.int IntKind.i64 r0.e, .slice A1 r0.rs.length c1, .slice A2 r0.ws.length c2] 26)
  have H2 := Lib.hid (grant_call r0 ben false A1 c1 A2 c2 _ ⟨HTB.out.below hb1'⟩ small0 (by decide +kernel) (hr1.below (below_alloc (Below.refl _ _) (Obj.cells #[Value.string r0.o, Value.string r0.f, Value.int IntKind.i64 r0.e, .slice A1 r0.rs.length c1, .slice A2 r0.ws.length c2] 26))))
  rw [grant0] at H2
  have HB1 := Lib.hid hb1'
  clear hr1 hb1 hb1' H1
  go_wp2_with fail
  refine H2.out.mono ?_
  rintro e w2 ⟨A3, c3, A4, c4, rfl, hr2, hb2⟩
  have hbx : Below w2.heap.size w2 (w2.alloc (Obj.cells #[Value.string r1.o, Value.string r1.f, Value.int IntKind.i64 r1.e, .slice A3 r1.rs.length c3, .slice A4 r1.ws.length c4] 26)) := below_alloc (Below.refl _ _) _
  have hx := box_new w2 r1 (.slice A3 r1.rs.length c3) (.slice A4 r1.ws.length c4)
  have HB2 := Lib.hid (below_step (below_step HB1.out hb2) hbx)
  have HR2 := Lib.hid (hr2.below hbx)
  have HX2 := Lib.hid hx
  clear hb2 hr2 H2 HB1 hbx hx
  have H3 := Lib.hid (can_call r1 ben false A3 c3 A4 c4 _ ⟨HTB.out.below HB2.out⟩ small1 HR2.out)
  rw [can1] at H3
  go_wp2_with fail
  refine H3.out.mono ?_
  rintro e w3 ⟨rfl, hb⟩
  have HB3 := Lib.hid (below_step HB2.out hb)
  have HR3 := Lib.hid (HR2.out.below hb)
  have HX3 := Lib.hid (HX2.out.below hb)
  clear hb HB2 HR2 HX2 H3
  obtain ⟨x0, x1, x2, x3, x4⟩ := HX3.out.cell
  have H4 := Lib.hid (can_call r1 ben true A3 c3 A4 c4 w3 ⟨HTB.out.below HB3.out⟩ small1 HR3.out)
  rw [can2] at H4
  go_wp2_with fail
  refine H4.out.mono ?_
  rintro e w4 ⟨rfl, hb⟩
  have HB4 := Lib.hid (below_step HB3.out hb)
  have HR4 := Lib.hid (HR3.out.below hb)
  have HX4 := Lib.hid (HX3.out.below hb)
  clear hb HB3 HR3 HX3 H4 x0 x1 x2 x3 x4
  obtain ⟨x0, x1, x2, x3, x4⟩ := HX4.out.cell
  have H5 := Lib.hid (can_call r1 anna true A3 c3 A4 c4 w4 ⟨HTB.out.below HB4.out⟩ small1 HR4.out)
  rw [can3] at H5
  go_wp2_with fail
  refine H5.out.mono ?_
  rintro e w5 ⟨rfl, hb⟩
  have HB5 := Lib.hid (below_step HB4.out hb)
  clear hb HB4 HR4 HX4 H5 x0 x1 x2 x3 x4
  go_wp2
  go_ret
  exact ⟨rfl, HB5.out⟩
end Go.Proofs.YtfhanoloaejmkaaDoor
end
section
namespace Go.Proofs.YtfhanoloaejmkaaDoor
open Go.ChangeShapes Go.WideShapes Go.RowKit Go.Deep Go.Proofs.YtfhanoloaejmkaaDoorW.PrintWords
set_option linter.unusedVariables false
def Opens {α : Type} (P : Program) (t : TypeId) (d : Kd α) (good : α → Prop) : Prop :=
  ∀ (H : Type) (enc : TypeId × Value → H) (W : World) (fuel : Nat) (cs : List Value) (x : DataW H × List MemPlace), DataW.trod enc P W 0 (fun _ => true) true fuel t cs = some x → ∃ a, d.K W a cs ∧ good a
theorem Opens.int {P : Program} {t : TypeId} {k : IntKind} (ht : P.underlying t = some (.int k)) : Opens P t (Kd.int k) (fun n => (Lit.int k n).wf = true) := by
  intro H enc W fuel cs x h
  obtain ⟨n, rfl, _, hn⟩ := DataW.trod_int ht h
  exact ⟨n, rfl, hn⟩
theorem Opens.bool {P : Program} {t : TypeId} (ht : P.underlying t = some .bool) : Opens P t Kd.bool (fun _ => True) := by
  intro H enc W fuel cs x h
  obtain ⟨b, rfl, _⟩ := DataW.trod_bool ht h
  exact ⟨b, rfl, trivial⟩
theorem Opens.string {P : Program} {t : TypeId} (ht : P.underlying t = some .string) : Opens P t Kd.string (fun s => s.size ≤ 9223372036854775807) := by
  intro H enc W fuel cs x h
  obtain ⟨s, rfl, _, hs⟩ := DataW.trod_string ht h
  exact ⟨s, rfl, hs⟩
theorem Opens.slice {α : Type} [Inhabited α] {P : Program} {t e : TypeId} {d : Kd α} {good : α → Prop} (ht : P.underlying t = some (.slice e)) (hc : P.cellsOf e = d.sz) (he : Opens P e d good) (q : Nat) :
    Opens P t (Kd.slice q d) (fun xs => xs.length ≤ 9223372036854775807 ∧ ∀ x ∈ xs, good x) := by
  intro H enc W fuel cs x h
  rcases open_slice ht h with ⟨rfl, _⟩ | ⟨a, len, cap, m, n, D, Pl, rfl, hb, hl, hm, hmm, rfl, hx⟩
  · exact ⟨[], ⟨none, 0, rfl, Nat.le_refl _, rfl, Nat.zero_le _, fun h => absurd h (Nat.lt_irrefl _)⟩, Nat.zero_le _, fun _ h => absurd h (by simp)⟩
  have hml : len ≤ m := by rw [hmm]; split <;> omega
  have hm' : cap ≤ 9223372036854775807 := hm
  have each : ∀ i, i < len → ∃ y : α, (∃ c, c.length = d.sz ∧ d.K W y c ∧ ∀ j u, c[j]? = some u → W.cell? (a.add (i * d.sz + j)) = some u) ∧ good y := by
    intro i hi
    obtain ⟨cs', h1, h2⟩ := hx i (by omega)
    obtain ⟨y, hy, hg⟩ := he H enc W n cs' _ h2
    obtain ⟨_, hlen, hcell⟩ := World.cells?_some h1
    refine ⟨y, ⟨cs', d.K_len hy, hy, fun j u hj => ?_⟩, hg⟩
    have hjl : j < cs'.length := by
      by_cases hjl : j < cs'.length
      · exact hjl
      · rw [List.getElem?_eq_none (by omega)] at hj; simp at hj
    have := hcell j (by rw [hlen] at hjl; exact hjl)
    rw [Deep.add_add, hc] at this
    rw [this, hj]
  obtain ⟨Y, hY⟩ := choose_lt each
  refine ⟨(List.range len).map Y, ⟨some a, cap, by simp, by simpa using hl, by simp, by simp; omega, fun _ => ⟨a, rfl, fun j p hj => ?_⟩⟩, by simp; omega, fun z hz => ?_⟩
  · have hjl : j < len := by
      by_cases hjl : j < len
      · exact hjl
      · rw [List.getElem?_eq_none (by simp; omega)] at hj; simp at hj
    have : p = Y j := by simpa [hjl] using hj.symm
    rw [this]
    exact (hY j hjl).1
  · obtain ⟨j, hj, rfl⟩ := List.mem_map.1 hz
    exact (hY j (List.mem_range.1 hj)).2
theorem Opens.arg {α : Type} {H : Type} {enc : TypeId × Value → H} {P : Program} {W : World} {t : TypeId} {v : Value} {d : DataW H} {ps : List MemPlace} {kd : Kd α} {good : α → Prop} (ho : Opens P t kd good)
    (h : DataW.Trod enc P W 0 (fun _ => true) true t v d ps) : ∃ a, kd.K W a v.cells.toList ∧ good a := by
  obtain ⟨fuel, hf⟩ := h
  exact ho H enc W fuel _ _ hf
theorem Opens.slice_arg {α : Type} {H : Type} {enc : TypeId × Value → H} {P : Program} {W : World} {t : TypeId} {A : Option Addr} {len cap : Nat} {d : DataW H} {ps : List MemPlace} {q : Nat} {kd : Kd α} {good : List α → Prop}
    (ho : Opens P t (Kd.slice q kd) good) (h : DataW.Trod enc P W 0 (fun _ => true) true t (.slice A len cap) d ps) : ∃ xs : List α, xs.length = len ∧ len ≤ cap ∧ kd.C W A xs.length xs ∧ good xs := by
  obtain ⟨xs, ⟨A', c, hcs, hl, hC⟩, hg⟩ := ho.arg h
  simp only [Value.cells, List.cons.injEq, and_true, Value.slice.injEq] at hcs
  obtain ⟨rfl, rfl, rfl⟩ := hcs
  exact ⟨xs, rfl, hl, hC, hg⟩
end Go.Proofs.YtfhanoloaejmkaaDoor
end
section
namespace Go.Proofs.YtfhanoloaejmkaaDoor
open Go.ChangeShapes Go.WideShapes Go.RowKit Go.Deep Go.Proofs.YtfhanoloaejmkaaDoorW.PrintWords
set_option linter.unusedVariables false
theorem Opens.pair2 {α β : Type} {P : Program} {t : TypeId} {f0 f1 : Field} {a : Kd α} {b : Kd β} {ga : α → Prop} {gb : β → Prop} (ht : P.underlying t = some (.struct #[f0, f1])) (h0 : f0.offset = 0) (c0 : P.cellsOf f0.type = a.sz)
    (h1 : f1.offset = a.sz) (c1 : P.cellsOf f1.type = b.sz) (hs : P.cellsOf t = a.sz + b.sz) (oa : Opens P f0.type a ga) (ob : Opens P f1.type b gb) : Opens P t (Kd.pair a b) (fun x => ga x.1 ∧ gb x.2) := by
  intro H enc W fuel cs x h
  obtain ⟨y0, y1, n, rfl, hl, e0, e1⟩ := trod_struct2 ht h
  obtain ⟨p, hp, gp⟩ := oa H enc W n _ _ e0
  obtain ⟨q, hq, gq⟩ := ob H enc W n _ _ e1
  refine ⟨(p, q), ⟨_, _, ?_, hp, hq⟩, gp, gq⟩
  rw [h0, c0, h1, c1, List.drop_zero]
  have : (cs.drop a.sz).take b.sz = cs.drop a.sz := List.take_of_length_le (by rw [List.length_drop]; omega)
  rw [this, List.take_append_drop]
theorem i64_wf {n : Int} (h : (Lit.int .i64 n).wf = true) : -9223372036854775808 ≤ n ∧ n ≤ 9223372036854775807 := by
  simpa [Lit.wf, show IntKind.i64.min = -9223372036854775808 from rfl] using h
abbrev actK : Kd (Int × Int) := Kd.pair (Kd.int .i64) (Kd.int .i64)
def actOk (a : Int × Int) : Prop := (-9223372036854775808 ≤ a.1 ∧ a.1 ≤ 9223372036854775807) ∧ (-9223372036854775808 ≤ a.2 ∧ a.2 ≤ 9223372036854775807)
theorem acts_ok {l : List (Int × Int)} (h : ∀ a ∈ l, (Lit.int .i64 a.1).wf = true ∧ (Lit.int .i64 a.2).wf = true) : ∀ a ∈ l, actOk a := fun a ha => ⟨i64_wf (h a ha).1, i64_wf (h a ha).2⟩
theorem actC {w : World} {A : Option Addr} {l : List (Int × Int)} (h : Kd.C actK w A l.length l) {k : Nat} (hk : k < l.length) :
    ∃ ad, A = some ad ∧ w.cell? (ad.add (k * 2)) = some (.int .i64 (l[k]).1) ∧ w.cell? ⟨(ad.add (k * 2)).block, (ad.add (k * 2)).off + 1, none⟩ = some (.int .i64 (l[k]).2) := by
  obtain ⟨ad, rfl, hc⟩ := h.2.2 (by omega)
  obtain ⟨cs, hl, ⟨c0, c1, rfl, h0, h1⟩, hz⟩ := hc k l[k] (List.getElem?_eq_getElem hk)
  obtain rfl : c0 = [.int .i64 (l[k]).1] := h0
  obtain rfl : c1 = [.int .i64 (l[k]).2] := h1
  refine ⟨ad, rfl, hz 0 _ rfl, ?_⟩
  have := hz 1 _ rfl
  rwa [add_field _ _ 1 (by omega)] at this
theorem acts_open : Opens Tryd.prog 22 (Kd.slice 32 actK) (fun l => l.length ≤ 9223372036854775807 ∧ ∀ a ∈ l, (Lit.int .i64 a.1).wf = true ∧ (Lit.int .i64 a.2).wf = true) :=
  Opens.slice Tryd.underlying22 (by kernel_rfl) (Opens.pair2 (t := 32) (f0 := ⟨"Op", 3, 0, false, "", "", 0⟩) (f1 := ⟨"Who", 3, 1, false, "", "", 8⟩) (by kernel_rfl) rfl (by kernel_rfl) rfl (by kernel_rfl) (by kernel_rfl) (Opens.int (k := .i64) (by kernel_rfl)) (Opens.int (k := .i64) (by kernel_rfl))) _
end Go.Proofs.YtfhanoloaejmkaaDoor
end
end
section

namespace Go.Proofs.YtfhanoloaejmkaaDoor.Ref
open Go.RowKit Go.Proofs.YtfhanoloaejmkaaDoor Go.Proofs.YtfhanoloaejmkaaDoor.PA Go.Proofs.YtfhanoloaejmkaaDoorW.PrintWords Go.Proofs.YtfhanoloaejmkaaDoorW.PrintLast
set_option linter.unusedVariables false
theorem nums_of (l : List Int) : strOfNums l = ofBytes (l.map fun n => UInt8.ofNat n.toNat) := bs_inj (by rw [nums_bytes, bytes_ofBytes])
theorem u8_mod (n : Nat) : UInt8.ofNat (n % 256) = UInt8.ofNat n := UInt8.toNat_inj.1 (by rw [UInt8.toNat_ofNat', UInt8.toNat_ofNat']; omega)
theorem beBytes_bits {n : Nat} (h : n < 18446744073709551616) : (beBytes n).length = (Lib.bitLen n + 7) / 8 := by
  induction n using Nat.strongRecOn with
  | _ n ih =>
    by_cases h0 : n = 0
    · subst h0
      rw [beBytes_zero]
      rfl
    by_cases h1 : n < 256
    · have h2 := Lib.bitLen_le8 ⟨n, h1⟩
      have h3 := Lib.bitLen_half n h0 (by omega)
      have h2 : Lib.bitLen n ≤ 8 := h2
      rw [beBytes_pos h0, show n / 256 = 0 from by omega, beBytes_zero]
      simp only [List.nil_append, List.length_singleton]
      omega
    · have h2 := Lib.bitLen_shift8 n (by omega) h
      have h3 := ih (n / 256) (by omega) (by omega)
      rw [beBytes_pos h0, List.length_append, h3, List.length_singleton]
      omega
theorem put_loop (i x : Nat) (h : Int) (zs tl : List Int) (hz : zs.length = i) (hx : (beBytes x).length = i) (hi : i ≤ 8) :
    Ev (fun k => wire_Put.l0 k (x : Int) (h :: (zs ++ tl)) (i : Int)) (strOfNums (h :: ((beBytes x).map (fun c => (c.toNat : Int)) ++ tl))) := by
  induction i generalizing x zs tl with
  | zero =>
    obtain rfl := List.length_eq_zero_iff.1 hz
    have : beBytes x = [] := List.length_eq_zero_iff.1 hx
    rw [this]
    refine Ev.step (fun _ => rfl) (Ev.neg (by simp) (Ev.now _))
  | succ i ih =>
    have hx0 : x ≠ 0 := by rintro rfl; rw [beBytes_zero] at hx; simp at hx
    rw [beBytes_pos hx0] at hx
    simp only [List.length_append, List.length_singleton, Nat.add_right_cancel_iff] at hx
    obtain ⟨ys, z, rfl⟩ : ∃ ys z, zs = ys ++ [z] := ⟨zs.dropLast, zs.getLast (by rintro rfl; simp at hz), (List.dropLast_concat_getLast _).symm⟩
    simp only [List.length_append, List.length_singleton, Nat.add_right_cancel_iff] at hz
    refine Ev.step (fun _ => rfl) (Ev.pos (by omega) (Ev.pos (by omega) (Ev.pos (by simp only [List.length_cons, List.length_append, hz]; omega) ?_)))
    have h1 : (h :: (ys ++ [z] ++ tl)).set (((i + 1 : Nat) : Int)).toNat ((x : Int) % 256) = h :: (ys ++ ((x : Int) % 256 :: tl)) := by
      rw [Int.toNat_natCast, List.set_cons_succ, List.append_assoc, List.set_append_right _ _ (by omega), hz, Nat.sub_self]
      rfl
    have h2 : wrap64 (((i + 1 : Nat) : Int) - 1) = (i : Int) := by rw [w64 (by omega) (by omega)]; omega
    rw [h1, h2]
    refine ev_cast (ih (x / 256) ys ((x : Int) % 256 :: tl) hz hx (by omega)) ?_
    rw [beBytes_pos hx0, List.map_append, List.append_assoc]
    congr 3
    simp only [List.map_cons, List.map_nil, List.singleton_append, toNat_mod]
    congr 1
theorem ofNat_map (l : Bs) : (l.map (fun c => (c.toNat : Int))).map (fun n => UInt8.ofNat n.toNat) = l := by
  rw [List.map_map]
  conv => rhs; rw [← List.map_id l]
  congr 1
  funext c
  simp [UInt8.ofNat_toNat]
theorem wirePut_ev (n : Nat) (h : n < 18446744073709551616) : Ev (fun k => wire_Put.f k (n : Int)) (ofBytes (putL n)) := by
  have hb := beBytes_bits h
  have h8 := beBytes_len8 h
  have hl : bits_Len64.f (n : Int) = some ((Lib.bitLen n : Nat) : Int) := by
    unfold bits_Len64.f
    rw [if_pos ⟨by omega, by omega⟩, Int.toNat_natCast]
  have h1 : wrap64 (Int.tdiv (wrap64 (((Lib.bitLen n : Nat) : Int) + 7)) 8) = ((beBytes n).length : Int) := by
    rw [w64 (n := ((Lib.bitLen n : Nat) : Int) + 7) (by omega) (by omega), Int.tdiv_eq_ediv_of_nonneg (by omega), hb]
    rw [w64 (by omega) (by omega)]
    omega
  unfold wire_Put.f
  refine Ev.put hl ?_
  rw [h1, w64 (n := 1 + ((beBytes n).length : Int)) (by omega) (by omega)]
  refine Ev.pos (by omega) (Ev.pos (by omega) (Ev.put rfl (Ev.pos (by rw [List.length_replicate]; omega) ?_)))
  rw [show (1 + ((beBytes n).length : Int)).toNat = (beBytes n).length + 1 from by omega, List.replicate_succ]
  have h2 := put_loop (beBytes n).length n (((beBytes n).length : Int) % 256) (List.replicate (beBytes n).length 0) [] (by simp) rfl h8
  rw [List.append_nil] at h2
  refine ev_cast h2 ?_
  rw [nums_of, List.append_nil, List.map_cons, ofNat_map]
  unfold putL
  clear h2 h1 hl
  congr 2
  rw [show (((beBytes n).length : Int) % 256).toNat = (beBytes n).length % 256 from by omega]
  exact u8_mod _
def numB (n : Nat) : ByteArray := ofBytes (putL n)
theorem size_numB {n : Nat} (h : n < 18446744073709551616) : (numB n).size ≤ 9 := by
  unfold numB; rw [size_ofBytes]; exact putL_len h
theorem joinB_two (a b : ByteArray) : joinB [a, b] = a ++ b := by
  unfold joinB
  simp only [List.flatMap_cons, List.flatMap_nil, List.append_nil]
  rw [ofBytes_append, ofBytes_bytes, ofBytes_bytes]
theorem putText_ev (s : ByteArray) (h : s.size ≤ 100000000000000) : Ev (fun k => wire_PutText.f k s) (numB s.size ++ s) := by
  have hw : IntKind.u64.wrap (s.size : Int) = (s.size : Int) := by rw [IntKind.wrap_u64]; omega
  unfold wire_PutText.f
  rw [hw]
  refine Ev.bind (wirePut_ev s.size (by omega)) (Ev.put (a := numB s.size ++ s) ?_ (Ev.now _))
  have := size_numB (n := s.size) (by omega)
  show wire_join.f [numB s.size, s] = _
  unfold wire_join.f
  rw [if_pos ⟨by simp, by rw [joinB_two, ByteArray.size_append]; omega⟩, joinB_two]
end Go.Proofs.YtfhanoloaejmkaaDoor.Ref
end
section

namespace Go.Proofs.YtfhanoloaejmkaaDoor.Ref
open Go.RowKit Go.Proofs.YtfhanoloaejmkaaDoor Go.Proofs.YtfhanoloaejmkaaDoor.PA Go.Proofs.YtfhanoloaejmkaaDoorW.PrintWords Go.Proofs.YtfhanoloaejmkaaDoorW.PrintLast
set_option linter.unusedVariables false
def catT (l : List ByteArray) : ByteArray := ofBytes (l.flatMap fun s => putT (bytes s))
def allB (l : List ByteArray) : ByteArray := numB l.length ++ catT l
theorem catT_cons (s : ByteArray) (l : List ByteArray) : catT (s :: l) = (numB s.size ++ s) ++ catT l := by
  refine bs_inj ?_
  unfold catT numB putT
  rw [bytes_append, bytes_append, bytes_ofBytes, bytes_ofBytes, bytes_ofBytes, List.flatMap_cons, bytes_length]
theorem catT_nil : catT [] = ⟨#[]⟩ := rfl
theorem catT_size (l : List ByteArray) (h : ∀ s ∈ l, s.size ≤ 100000000000) : (catT l).size ≤ l.length * 100000000009 := by
  induction l with
  | nil => exact Nat.le_refl _
  | cons s l ih =>
    have h1 := h s List.mem_cons_self
    have h2 := size_numB (n := s.size) (by omega)
    have h3 := ih fun x hx => h x (List.mem_cons_of_mem _ hx)
    rw [catT_cons, ByteArray.size_append, ByteArray.size_append, List.length_cons]
    omega
theorem joinB_cons (a : ByteArray) (l : List ByteArray) : joinB (a :: l) = a ++ joinB l := by
  refine bs_inj ?_
  unfold joinB
  rw [bytes_append, bytes_ofBytes, bytes_ofBytes, List.flatMap_cons]
theorem joinB_texts (l : List ByteArray) : joinB (l.map fun s => numB s.size ++ s) = catT l := by
  induction l with
  | nil => rfl
  | cons s l ih => rw [List.map_cons, joinB_cons, ih, catT_cons]
theorem putAll_loop (l : List ByteArray) (hl : l.length ≤ 1000) (hs : ∀ s ∈ l, s.size ≤ 100000000000) (m i : Nat) (hm : i + m = l.length) (h0 : ByteArray) (hz : h0.size ≤ 9) :
    Ev (fun k => wire_PutAll.l0 k (h0 :: (l.take i).map fun s => numB s.size ++ s) l (l.length : Int) (i : Int)) (h0 ++ catT l) := by
  induction m generalizing i with
  | zero =>
    rw [List.take_of_length_le (by omega)]
    refine Ev.step (fun _ => rfl) (Ev.neg (by omega) (Ev.put (a := h0 ++ catT l) ?_ (Ev.now _)))
    have h1 := catT_size l hs
    have h2 : l.length * 100000000009 ≤ 1000 * 100000000009 := Nat.mul_le_mul_right _ hl
    unfold wire_join.f
    rw [if_pos ⟨by simp; omega, by rw [joinB_cons, joinB_texts, ByteArray.size_append]; omega⟩, joinB_cons, joinB_texts]
  | succ m ih =>
    have hi : i < l.length := by omega
    have hz := hs l[i] (List.getElem_mem hi)
    refine Ev.step (fun _ => rfl) (Ev.pos (by omega) (Ev.pos (by omega) (Ev.pos (by omega) ?_)))
    have hr : rdOf ByteArray.empty l (i : Int) = l[i] := by
      unfold rdOf; rw [Int.toNat_natCast, List.getD_eq_getElem?_getD, List.getElem?_eq_getElem hi]; rfl
    rw [hr]
    refine Ev.bind (putText_ev l[i] (by omega)) (Ev.pos (by simp; omega) ?_)
    rw [w64 (n := (i : Int) + 1) (by omega) (by omega)]
    have := ih (i + 1) (by omega)
    rw [List.take_succ_eq_append_getElem hi, List.map_append] at this
    exact this
theorem putAll_ev (l : List ByteArray) (hl : l.length ≤ 1000) (hs : ∀ s ∈ l, s.size ≤ 100000000000) : Ev (fun k => wire_PutAll.f k l) (allB l) := by
  have hw : IntKind.u64.wrap (l.length : Int) = (l.length : Int) := by rw [IntKind.wrap_u64]; omega
  unfold wire_PutAll.f allB
  rw [hw]
  exact Ev.bind (wirePut_ev l.length (by omega)) (putAll_loop l hl hs l.length 0 (by omega) _ (size_numB (by omega)))
end Go.Proofs.YtfhanoloaejmkaaDoor.Ref
end
section

namespace Go.Proofs.YtfhanoloaejmkaaDoor
open Go.Proofs.YtfhanoloaejmkaaDoor.Ref
set_option linter.unusedVariables false
def sameR (a b : Rt) : Bool := decide (a.o = b.o) && decide (a.f = b.f) && decide (a.e = b.e) && decide (a.rs = b.rs) && decide (a.ws = b.ws)
theorem same_iff (a b : Rt) : sameR a b = true ↔ a = b := by
  unfold sameR
  simp only [Bool.and_eq_true, decide_eq_true_eq]
  cases a; cases b; simp [and_assoc]
def bagR (r : Rt) : List ByteArray := [r.o, r.f, numB r.e.toNat, allB r.rs, allB r.ws]
def putF (r : Rt) : ByteArray × Int := if rightR r = true then (allB (bagR r), 0) else (⟨#[]⟩, 1)
theorem name_size {s : ByteArray} (h : rightN (bytes s) = true) : s.size ≤ 128 := by
  have := right_len h
  rwa [bytes_length] at this
theorem catT_le (l : List ByteArray) (b : Nat) (hb : b ≤ 100000) (h : ∀ s ∈ l, s.size ≤ b) : (catT l).size ≤ l.length * (b + 9) := by
  induction l with
  | nil => rw [catT_nil]; exact Nat.zero_le _
  | cons s l ih =>
    rw [catT_cons, ByteArray.size_append, ByteArray.size_append, List.length_cons]
    have h1 := h s List.mem_cons_self
    have h2 := size_numB (n := s.size) (by omega)
    have h3 := ih fun x hx => h x (List.mem_cons_of_mem _ hx)
    have : (l.length + 1) * (b + 9) = l.length * (b + 9) + (b + 9) := Nat.succ_mul _ _
    omega
theorem allB_le (l : List ByteArray) (b : Nat) (hb : b ≤ 100000) (hl : l.length ≤ 1000) (h : ∀ s ∈ l, s.size ≤ b) : (allB l).size ≤ l.length * (b + 9) + 9 := by
  unfold allB
  rw [ByteArray.size_append]
  have := size_numB (n := l.length) (by omega)
  have := catT_le l b hb h
  omega
theorem bag_small {r : Rt} (h : rightR r = true) : ∀ s ∈ bagR r, s.size ≤ 700 := by
  obtain ⟨p1, p2, p3, p4, p5, p6, p7, p8, p9⟩ := right_parts h
  have a1 := allB_le r.rs 128 (by omega) (by omega) (fun s hs => name_size (p7 s hs).1)
  have a2 := allB_le r.ws 128 (by omega) (by omega) (fun s hs => name_size (p8 s hs).1)
  have a3 := size_numB (n := r.e.toNat) (by omega)
  have a4 := name_size p1
  have a5 := name_size p2
  intro s hs
  unfold bagR at hs
  simp only [List.mem_cons, List.not_mem_nil, or_false] at hs
  rcases hs with rfl | rfl | rfl | rfl | rfl <;> omega
end Go.Proofs.YtfhanoloaejmkaaDoor
end
section

namespace Go.Proofs.YtfhanoloaejmkaaDoor.PA
open Go.RowKit Go.Proofs.YtfhanoloaejmkaaDoorW.PrintWords Go.Proofs.YtfhanoloaejmkaaDoorW.PrintLast Go.Proofs.YtfhanoloaejmkaaDoorW.PrintMore
attribute [local go_sem] max2_int min2_int max_two min_two max_three min_three max_four min_four   -- for this text's walks alone
set_option linter.unusedVariables false
set_option linter.unusedSimpArgs false
mutual
def letterlockref1_first.j2 : Nat → ByteArray → Int → Int → Int → Option (Int × Int)
  | 0, _, _, _, _ => none
  | k + 1, x0, x4, x5, x6 => if x4 = 0 then (letterlockref1_first.j3 k x0 x4 x5 x6 true) else (letterlockref1_first.j3 k x0 x4 x5 x6 (decide ((x0.size : Int) < x4)))
def letterlockref1_first.j3 : Nat → ByteArray → Int → Int → Int → Bool → Option (Int × Int)
  | 0, _, _, _, _, _ => none
  | k + 1, x0, x4, x5, x6, x62 => if x62 = true then (some (0, 0)) else (letterlockref1_first.l0 k x0 x4 x5 x6 1)
def letterlockref1_first.l0 : Nat → ByteArray → Int → Int → Int → Int → Option (Int × Int)
  | 0, _, _, _, _, _ => none
  | k + 1, x0, x4, x5, x6, x7 => if x7 < x4 then (if 0 ≤ x7 then (if x7 < (x0.size : Int) then (if (bt x0 x7) < 128 then (some (0, 0)) else (if (bt x0 x7) > 191 then (some (0, 0)) else (letterlockref1_first.l0 k x0 x4 (wrap32 ((wrap32 (64 * x5)) + (((bt x0 x7) - 128) % 256))) x6 (wrap64 (x7 + 1))))) else (none)) else (none)) else (if x5 < x6 then (some (0, 0)) else ((letterlockref1_valid.f x5).bind fun t156 => (if t156 = true then (some (x5, x4)) else (some (0, 0)))))
def letterlockref1_first.j0 : Nat → ByteArray → Int → Int → Int → Bool → Option (Int × Int)
  | 0, _, _, _, _, _ => none
  | k + 1, x0, x4, x5, x6, x16 => if x16 = true then (if 0 < (x0.size : Int) then (letterlockref1_first.j2 k x0 2 (((bt x0 0) - 192) % 256) 128) else (none)) else (if 0 < (x0.size : Int) then (if (bt x0 0) ≥ 224 then (letterlockref1_first.j1 k x0 x4 x5 x6 (decide ((bt x0 0) < 240))) else (letterlockref1_first.j1 k x0 x4 x5 x6 false)) else (none))
def letterlockref1_first.j1 : Nat → ByteArray → Int → Int → Int → Bool → Option (Int × Int)
  | 0, _, _, _, _, _ => none
  | k + 1, x0, x4, x5, x6, x29 => if x29 = true then (if 0 < (x0.size : Int) then (letterlockref1_first.j2 k x0 3 (((bt x0 0) - 224) % 256) 2048) else (none)) else (if 0 < (x0.size : Int) then (if (bt x0 0) ≥ 240 then (if (bt x0 0) < 248 then (letterlockref1_first.j2 k x0 4 (((bt x0 0) - 240) % 256) 65536) else (letterlockref1_first.j2 k x0 x4 x5 x6)) else (letterlockref1_first.j2 k x0 x4 x5 x6)) else (none))
end
def letterlockref1_first.f (k : Nat) (a0 : ByteArray) : Option (Int × Int) := if a0.toList = ([] : List UInt8) then (some (0, 0)) else (if 0 < (a0.size : Int) then (if (bt a0 0) < 128 then (some (wrap32 (bt a0 0), 1)) else (if (bt a0 0) ≥ 192 then (letterlockref1_first.j0 k a0 0 0 0 (decide ((bt a0 0) < 224))) else (letterlockref1_first.j0 k a0 0 0 0 false))) else (none))
set_option maxHeartbeats 8000000 in
set_option maxRecDepth 100000 in
theorem letterlockref1_first.calls (k : Nat) (a0 : ByteArray) (r1 : Int) (r2 : Int) (w : World) (h : letterlockref1_first.f k a0 = some (r1, r2)) :
    Calls Tryd.prog 77 #[.string a0] w fun e w' => e = .returned (.tuple #[.int .i32 r1, .int .i64 r2]) ∧ Drawn0 w w' := by
  have H : (if a0.toList = ([] : List UInt8) then (some (0, 0)) else (if 0 < (a0.size : Int) then (if (bt a0 0) < 128 then (some (wrap32 (bt a0 0), 1)) else (if (bt a0 0) ≥ 192 then (letterlockref1_first.j0 k a0 0 0 0 (decide ((bt a0 0) < 224))) else (letterlockref1_first.j0 k a0 0 0 0 false))) else (none))) = some (r1, r2) := h
  clear h
  by_cases c2 : a0.toList = ([] : List UInt8)
  · rw [if_pos c2] at H
    have c2b0 : (a0.toList == ([] : List UInt8)) = true := beq_iff_eq.mpr c2
    have c2b1 : (a0.toList != ([] : List UInt8)) = false := bne_eq_false_iff_eq.mpr c2
    clear c2
    simp only [Option.some.injEq, Prod.mk.injEq] at H
    obtain ⟨rfl, rfl⟩ := H
    go_enter Tryd.func77, Tryd.ntmps77
    go_wp2
    go_ret2
    exact ⟨by first | rfl | (simp; done) | (simp [*]; done), by repeat (first | exact Drawn0.refl _ | apply Drawn0.step)⟩
  · rw [if_neg c2] at H
    have c2b0 : (a0.toList == ([] : List UInt8)) = false := beq_eq_false_iff_ne.mpr c2
    have c2b1 : (a0.toList != ([] : List UInt8)) = true := bne_iff_ne.mpr c2
    by_cases c3 : 0 < (a0.size : Int)
    · rw [if_pos c3] at H
      have c3b0 : decide (0 < (a0.size : Int)) = true := decide_eq_true c3
      have c3b1 : decide (0 < a0.size) = true := decide_eq_true (by omega)
      clear c3
      by_cases c5 : (bt a0 0) < 128
      · rw [if_pos c5] at H
        have c5b0 : decide ((bt a0 0) < 128) = true := decide_eq_true c5
        clear c5
        simp only [Option.some.injEq, Prod.mk.injEq] at H
        obtain ⟨rfl, rfl⟩ := H
        have p4 : 0 ≤ (0 : Int) := (by omega)
        have q4 : 0 < a0.size := (by have : (0 : Int) < (a0.size : Int) := of_decide_eq_true (by first | (with_reducible assumption) | assumption); omega)
        have hx4 : ∀ h : 0 < a0.size, ((a0[0]'h).toNat : Int) = bt a0 0 := bt_at a0 0
        clear p4
        have qi4 : (0 < (a0.size : Int)) = True := eq_true (of_decide_eq_true (by first | (with_reducible assumption) | assumption))
        replace q4 := eq_true q4
        have p6 : 0 ≤ (0 : Int) := (by omega)
        have q6 : 0 < a0.size := (by have : (0 : Int) < (a0.size : Int) := of_decide_eq_true (by first | (with_reducible assumption) | assumption); omega)
        have hx6 : ∀ h : 0 < a0.size, ((a0[0]'h).toNat : Int) = bt a0 0 := bt_at a0 0
        clear p6
        have qi6 : (0 < (a0.size : Int)) = True := eq_true (of_decide_eq_true (by first | (with_reducible assumption) | assumption))
        replace q6 := eq_true q6
        go_enter Tryd.func77, Tryd.ntmps77
        go_wp2
        go_ret2
        exact ⟨by first | rfl | (simp; done) | (simp [*]; done), by repeat (first | exact Drawn0.refl _ | apply Drawn0.step)⟩
      · rw [if_neg c5] at H
        have c5b0 : decide ((bt a0 0) < 128) = false := decide_eq_false c5
        clear c5
        have HC7 := Aside0.mk H
        clear H
        have p4 : 0 ≤ (0 : Int) := (by omega)
        have q4 : 0 < a0.size := (by have : (0 : Int) < (a0.size : Int) := of_decide_eq_true (by first | (with_reducible assumption) | assumption); omega)
        have hx4 : ∀ h : 0 < a0.size, ((a0[0]'h).toNat : Int) = bt a0 0 := bt_at a0 0
        clear p4
        have qi4 : (0 < (a0.size : Int)) = True := eq_true (of_decide_eq_true (by first | (with_reducible assumption) | assumption))
        replace q4 := eq_true q4
        go_enter Tryd.func77, Tryd.ntmps77
        go_upto_block 0 with (fail)
        go_cut [4, 5, 6] (fun v4 v5 v6 wc => ∃ (kq : Nat) (x4_6 : Int) (x5_6 : Int) (x6_6 : Int), v4 = .int .i64 x4_6 ∧ v5 = .int .i32 x5_6 ∧ v6 = .int .i32 x6_6 ∧ Aside0 (letterlockref1_first.j2 kq a0 x4_6 x5_6 x6_6 = some (r1, r2)) ∧ Aside0 (kq ≤ k) ∧ Drawn0 w wc)
        case first =>
          have H := HC7.out
          clear HC7
          have HC8 := Aside0.mk H
          clear H
          go_upto_region 8 with (fail)
          go_cut [16] (fun v16 wc => ∃ (kq : Nat) (x16_7 : Bool), v16 = .bool x16_7 ∧ Aside0 (letterlockref1_first.j0 kq a0 0 0 0 x16_7 = some (r1, r2)) ∧ Aside0 (kq ≤ k) ∧ Drawn0 w wc)
          case first =>
            have H := HC8.out
            clear HC8
            by_cases c10 : (bt a0 0) ≥ 192
            · rw [if_pos c10] at H
              have c10b0 : decide (192 ≤ (bt a0 0)) = true := decide_eq_true c10
              clear c10
              (first | rw [c10b0] | (simp only [i64_w, i32_w]; rw [c10b0]) | skip)
              have H' := Aside0.mk H
              clear H
              have p9 : 0 ≤ (0 : Int) := (by omega)
              have q9 : 0 < a0.size := (by have : (0 : Int) < (a0.size : Int) := of_decide_eq_true (by first | (with_reducible assumption) | assumption); omega)
              have hx9 : ∀ h : 0 < a0.size, ((a0[0]'h).toNat : Int) = bt a0 0 := bt_at a0 0
              clear p9
              have qi9 : (0 < (a0.size : Int)) = True := eq_true (of_decide_eq_true (by first | (with_reducible assumption) | assumption))
              replace q9 := eq_true q9
              have p11 : 0 ≤ (0 : Int) := (by omega)
              have q11 : 0 < a0.size := (by have : (0 : Int) < (a0.size : Int) := of_decide_eq_true (by first | (with_reducible assumption) | assumption); omega)
              have hx11 : ∀ h : 0 < a0.size, ((a0[0]'h).toNat : Int) = bt a0 0 := bt_at a0 0
              clear p11
              have qi11 : (0 < (a0.size : Int)) = True := eq_true (of_decide_eq_true (by first | (with_reducible assumption) | assumption))
              replace q11 := eq_true q11
              go_wp2
              go_meet
              case rel => exact ⟨_, (decide ((bt a0 0) < 224)), (by first | rfl | (simp; done) | (simp [*]; done)), H', ⟨by first | omega | exact Nat.le_refl _⟩, by repeat (first | exact Drawn0.refl _ | apply Drawn0.step)⟩
            · rw [if_neg c10] at H
              have c10b0 : decide (192 ≤ (bt a0 0)) = false := decide_eq_false c10
              clear c10
              (first | rw [c10b0] | (simp only [i64_w, i32_w]; rw [c10b0]) | skip)
              have H' := Aside0.mk H
              clear H
              have p9 : 0 ≤ (0 : Int) := (by omega)
              have q9 : 0 < a0.size := (by have : (0 : Int) < (a0.size : Int) := of_decide_eq_true (by first | (with_reducible assumption) | assumption); omega)
              have hx9 : ∀ h : 0 < a0.size, ((a0[0]'h).toNat : Int) = bt a0 0 := bt_at a0 0
              clear p9
              have qi9 : (0 < (a0.size : Int)) = True := eq_true (of_decide_eq_true (by first | (with_reducible assumption) | assumption))
              replace q9 := eq_true q9
              go_wp2
              go_meet
              case rel => exact ⟨_, (false), (by first | rfl | (simp; done) | (simp [*]; done)), H', ⟨by first | omega | exact Nat.le_refl _⟩, by repeat (first | exact Drawn0.refl _ | apply Drawn0.step)⟩
          case rest =>
            clear HC8
            try clear c1
            try clear p1
            try clear q1
            try clear hx1
            try clear qi1
            try clear c2
            try clear c2b0
            try clear c2b1
            try clear p2
            try clear c3
            try clear c3b0
            try clear c3b1
            try clear p3
            try clear p4
            try clear q4
            try clear hx4
            try clear qi4
            try clear c5
            try clear c5b0
            try clear p6
            try clear q6
            try clear hx6
            try clear qi6
            try clear c7
            try clear p9
            try clear q9
            try clear hx9
            try clear qi9
            try clear c10
            try clear c10b0
            try clear p11
            try clear q11
            try clear hx11
            try clear qi11
            try clear p11
            try clear p4
            try clear p6
            try clear p9
            try clear q11
            try clear q4
            try clear q6
            try clear q9
            obtain ⟨kq, x16_7, rfl, HA, HJ7, ⟨mc7, rfl⟩⟩ := hcut
            cases kq with
            | zero => exact absurd HA.out (by simp [letterlockref1_first.j0])
            | succ kj7 =>
              have H := HA.out
              clear HA
              simp only [letterlockref1_first.j0] at H
              by_cases c12 : x16_7 = true
              · subst c12
                have H1 : (if 0 < (a0.size : Int) then (letterlockref1_first.j2 kj7 a0 2 (((bt a0 0) - 192) % 256) 128) else (none)) = some (r1, r2) := by rw [if_pos rfl] at H; exact H
                clear H
                have H := H1
                clear H1
                by_cases c13 : 0 < (a0.size : Int)
                · rw [if_pos c13] at H
                  have c13b0 : decide (0 < (a0.size : Int)) = true := decide_eq_true c13
                  have c13b1 : decide (0 < a0.size) = true := decide_eq_true (by omega)
                  clear c13
                  have H' := Aside0.mk H
                  clear H
                  have p14 : 0 ≤ (0 : Int) := (by omega)
                  have q14 : 0 < a0.size := (by have : (0 : Int) < (a0.size : Int) := of_decide_eq_true (by first | (with_reducible assumption) | assumption); omega)
                  have hx14 : ∀ h : 0 < a0.size, ((a0[0]'h).toNat : Int) = bt a0 0 := bt_at a0 0
                  clear p14
                  have qi14 : (0 < (a0.size : Int)) = True := eq_true (of_decide_eq_true (by first | (with_reducible assumption) | assumption))
                  replace q14 := eq_true q14
                  go_wp2
                  go_meet
                  case rel => exact ⟨_, (2), (((bt a0 0) - 192) % 256), (128), (by first | rfl | (simp; done) | (simp [*]; done)), (by first | rfl | (simp; done) | (simp [*]; done)), (by first | rfl | (simp; done) | (simp [*]; done)), H', ⟨by have := HJ7.out; first | omega | exact Nat.le_refl _⟩, by repeat (first | exact Drawn0.refl _ | apply Drawn0.step)⟩
                · rw [if_neg c13] at H
                  exact absurd H (by simp)
              · replace c12 := Bool.eq_false_iff.mpr c12
                subst c12
                have H1 : (if 0 < (a0.size : Int) then (if (bt a0 0) ≥ 224 then (letterlockref1_first.j1 kj7 a0 0 0 0 (decide ((bt a0 0) < 240))) else (letterlockref1_first.j1 kj7 a0 0 0 0 false)) else (none)) = some (r1, r2) := by rw [if_neg (show ¬ (false = true) by decide)] at H; exact H
                clear H
                have H := H1
                clear H1
                have HC15 := Aside0.mk H
                clear H
                go_upto_region 12 with (fail)
                go_cut [29] (fun v29 wc => ∃ (kq : Nat) (x29_14 : Bool), v29 = .bool x29_14 ∧ Aside0 (letterlockref1_first.j1 kq a0 0 0 0 x29_14 = some (r1, r2)) ∧ Aside0 (kq ≤ kj7) ∧ Drawn0 w wc)
                case first =>
                  have H := HC15.out
                  clear HC15
                  by_cases c16 : 0 < (a0.size : Int)
                  · rw [if_pos c16] at H
                    have c16b0 : decide (0 < (a0.size : Int)) = true := decide_eq_true c16
                    have c16b1 : decide (0 < a0.size) = true := decide_eq_true (by omega)
                    clear c16
                    (first | rw [c16b0] | (simp only [i64_w, i32_w]; rw [c16b0]) | skip)
                    by_cases c18 : (bt a0 0) ≥ 224
                    · rw [if_pos c18] at H
                      have c18b0 : decide (224 ≤ (bt a0 0)) = true := decide_eq_true c18
                      clear c18
                      have H' := Aside0.mk H
                      clear H
                      have p17 : 0 ≤ (0 : Int) := (by omega)
                      have q17 : 0 < a0.size := (by have : (0 : Int) < (a0.size : Int) := of_decide_eq_true (by first | (with_reducible assumption) | assumption); omega)
                      have hx17 : ∀ h : 0 < a0.size, ((a0[0]'h).toNat : Int) = bt a0 0 := bt_at a0 0
                      clear p17
                      have qi17 : (0 < (a0.size : Int)) = True := eq_true (of_decide_eq_true (by first | (with_reducible assumption) | assumption))
                      replace q17 := eq_true q17
                      have p19 : 0 ≤ (0 : Int) := (by omega)
                      have q19 : 0 < a0.size := (by have : (0 : Int) < (a0.size : Int) := of_decide_eq_true (by first | (with_reducible assumption) | assumption); omega)
                      have hx19 : ∀ h : 0 < a0.size, ((a0[0]'h).toNat : Int) = bt a0 0 := bt_at a0 0
                      clear p19
                      have qi19 : (0 < (a0.size : Int)) = True := eq_true (of_decide_eq_true (by first | (with_reducible assumption) | assumption))
                      replace q19 := eq_true q19
                      go_wp2
                      go_meet
                      case rel => exact ⟨_, (decide ((bt a0 0) < 240)), (by first | rfl | (simp; done) | (simp [*]; done)), H', ⟨by have := HJ7.out; first | omega | exact Nat.le_refl _⟩, by repeat (first | exact Drawn0.refl _ | apply Drawn0.step)⟩
                    · rw [if_neg c18] at H
                      have c18b0 : decide (224 ≤ (bt a0 0)) = false := decide_eq_false c18
                      clear c18
                      have H' := Aside0.mk H
                      clear H
                      have p17 : 0 ≤ (0 : Int) := (by omega)
                      have q17 : 0 < a0.size := (by have : (0 : Int) < (a0.size : Int) := of_decide_eq_true (by first | (with_reducible assumption) | assumption); omega)
                      have hx17 : ∀ h : 0 < a0.size, ((a0[0]'h).toNat : Int) = bt a0 0 := bt_at a0 0
                      clear p17
                      have qi17 : (0 < (a0.size : Int)) = True := eq_true (of_decide_eq_true (by first | (with_reducible assumption) | assumption))
                      replace q17 := eq_true q17
                      go_wp2
                      go_meet
                      case rel => exact ⟨_, (false), (by first | rfl | (simp; done) | (simp [*]; done)), H', ⟨by have := HJ7.out; first | omega | exact Nat.le_refl _⟩, by repeat (first | exact Drawn0.refl _ | apply Drawn0.step)⟩
                  · rw [if_neg c16] at H
                    exact absurd H (by simp)
                case rest =>
                  clear HC15
                  try clear c1
                  try clear p1
                  try clear q1
                  try clear hx1
                  try clear qi1
                  try clear c2
                  try clear c2b0
                  try clear c2b1
                  try clear p2
                  try clear c3
                  try clear c3b0
                  try clear c3b1
                  try clear p3
                  try clear p4
                  try clear q4
                  try clear hx4
                  try clear qi4
                  try clear c5
                  try clear c5b0
                  try clear p6
                  try clear q6
                  try clear hx6
                  try clear qi6
                  try clear c7
                  try clear p9
                  try clear q9
                  try clear hx9
                  try clear qi9
                  try clear c10
                  try clear c10b0
                  try clear p11
                  try clear q11
                  try clear hx11
                  try clear qi11
                  try clear c12
                  try clear c13
                  try clear c13b0
                  try clear c13b1
                  try clear p14
                  try clear q14
                  try clear hx14
                  try clear qi14
                  try clear c16
                  try clear c16b0
                  try clear c16b1
                  try clear p17
                  try clear q17
                  try clear hx17
                  try clear qi17
                  try clear c18
                  try clear c18b0
                  try clear p19
                  try clear q19
                  try clear hx19
                  try clear qi19
                  try clear p1
                  try clear p11
                  try clear p14
                  try clear p17
                  try clear p19
                  try clear p2
                  try clear p3
                  try clear p4
                  try clear p6
                  try clear p9
                  try clear q1
                  try clear q11
                  try clear q14
                  try clear q17
                  try clear q19
                  try clear q4
                  try clear q6
                  try clear q9
                  obtain ⟨kq, x29_14, rfl, HA, HJ14, ⟨mc14, rfl⟩⟩ := hcut
                  cases kq with
                  | zero => exact absurd HA.out (by simp [letterlockref1_first.j1])
                  | succ kj14 =>
                    have H := HA.out
                    clear HA
                    simp only [letterlockref1_first.j1] at H
                    by_cases c20 : x29_14 = true
                    · subst c20
                      have H1 : (if 0 < (a0.size : Int) then (letterlockref1_first.j2 kj14 a0 3 (((bt a0 0) - 224) % 256) 2048) else (none)) = some (r1, r2) := by rw [if_pos rfl] at H; exact H
                      clear H
                      have H := H1
                      clear H1
                      by_cases c21 : 0 < (a0.size : Int)
                      · rw [if_pos c21] at H
                        have c21b0 : decide (0 < (a0.size : Int)) = true := decide_eq_true c21
                        have c21b1 : decide (0 < a0.size) = true := decide_eq_true (by omega)
                        clear c21
                        have H' := Aside0.mk H
                        clear H
                        have p22 : 0 ≤ (0 : Int) := (by omega)
                        have q22 : 0 < a0.size := (by have : (0 : Int) < (a0.size : Int) := of_decide_eq_true (by first | (with_reducible assumption) | assumption); omega)
                        have hx22 : ∀ h : 0 < a0.size, ((a0[0]'h).toNat : Int) = bt a0 0 := bt_at a0 0
                        clear p22
                        have qi22 : (0 < (a0.size : Int)) = True := eq_true (of_decide_eq_true (by first | (with_reducible assumption) | assumption))
                        replace q22 := eq_true q22
                        go_wp2
                        go_meet
                        case rel => exact ⟨_, (3), (((bt a0 0) - 224) % 256), (2048), (by first | rfl | (simp; done) | (simp [*]; done)), (by first | rfl | (simp; done) | (simp [*]; done)), (by first | rfl | (simp; done) | (simp [*]; done)), H', ⟨by have := HJ7.out; have := HJ14.out; first | omega | exact Nat.le_refl _⟩, by repeat (first | exact Drawn0.refl _ | apply Drawn0.step)⟩
                      · rw [if_neg c21] at H
                        exact absurd H (by simp)
                    · replace c20 := Bool.eq_false_iff.mpr c20
                      subst c20
                      have H1 : (if 0 < (a0.size : Int) then (if (bt a0 0) ≥ 240 then (if (bt a0 0) < 248 then (letterlockref1_first.j2 kj14 a0 4 (((bt a0 0) - 240) % 256) 65536) else (letterlockref1_first.j2 kj14 a0 0 0 0)) else (letterlockref1_first.j2 kj14 a0 0 0 0)) else (none)) = some (r1, r2) := by rw [if_neg (show ¬ (false = true) by decide)] at H; exact H
                      clear H
                      have H := H1
                      clear H1
                      by_cases c23 : 0 < (a0.size : Int)
                      · rw [if_pos c23] at H
                        have c23b0 : decide (0 < (a0.size : Int)) = true := decide_eq_true c23
                        have c23b1 : decide (0 < a0.size) = true := decide_eq_true (by omega)
                        clear c23
                        by_cases c25 : (bt a0 0) ≥ 240
                        · rw [if_pos c25] at H
                          have c25b0 : decide (240 ≤ (bt a0 0)) = true := decide_eq_true c25
                          clear c25
                          by_cases c27 : (bt a0 0) < 248
                          · rw [if_pos c27] at H
                            have c27b0 : decide ((bt a0 0) < 248) = true := decide_eq_true c27
                            clear c27
                            have H' := Aside0.mk H
                            clear H
                            have p24 : 0 ≤ (0 : Int) := (by omega)
                            have q24 : 0 < a0.size := (by have : (0 : Int) < (a0.size : Int) := of_decide_eq_true (by first | (with_reducible assumption) | assumption); omega)
                            have hx24 : ∀ h : 0 < a0.size, ((a0[0]'h).toNat : Int) = bt a0 0 := bt_at a0 0
                            clear p24
                            have qi24 : (0 < (a0.size : Int)) = True := eq_true (of_decide_eq_true (by first | (with_reducible assumption) | assumption))
                            replace q24 := eq_true q24
                            have p26 : 0 ≤ (0 : Int) := (by omega)
                            have q26 : 0 < a0.size := (by have : (0 : Int) < (a0.size : Int) := of_decide_eq_true (by first | (with_reducible assumption) | assumption); omega)
                            have hx26 : ∀ h : 0 < a0.size, ((a0[0]'h).toNat : Int) = bt a0 0 := bt_at a0 0
                            clear p26
                            have qi26 : (0 < (a0.size : Int)) = True := eq_true (of_decide_eq_true (by first | (with_reducible assumption) | assumption))
                            replace q26 := eq_true q26
                            have p28 : 0 ≤ (0 : Int) := (by omega)
                            have q28 : 0 < a0.size := (by have : (0 : Int) < (a0.size : Int) := of_decide_eq_true (by first | (with_reducible assumption) | assumption); omega)
                            have hx28 : ∀ h : 0 < a0.size, ((a0[0]'h).toNat : Int) = bt a0 0 := bt_at a0 0
                            clear p28
                            have qi28 : (0 < (a0.size : Int)) = True := eq_true (of_decide_eq_true (by first | (with_reducible assumption) | assumption))
                            replace q28 := eq_true q28
                            go_wp2
                            go_meet
                            case rel => exact ⟨_, (4), (((bt a0 0) - 240) % 256), (65536), (by first | rfl | (simp; done) | (simp [*]; done)), (by first | rfl | (simp; done) | (simp [*]; done)), (by first | rfl | (simp; done) | (simp [*]; done)), H', ⟨by have := HJ7.out; have := HJ14.out; first | omega | exact Nat.le_refl _⟩, by repeat (first | exact Drawn0.refl _ | apply Drawn0.step)⟩
                          · rw [if_neg c27] at H
                            have c27b0 : decide ((bt a0 0) < 248) = false := decide_eq_false c27
                            clear c27
                            have H' := Aside0.mk H
                            clear H
                            have p24 : 0 ≤ (0 : Int) := (by omega)
                            have q24 : 0 < a0.size := (by have : (0 : Int) < (a0.size : Int) := of_decide_eq_true (by first | (with_reducible assumption) | assumption); omega)
                            have hx24 : ∀ h : 0 < a0.size, ((a0[0]'h).toNat : Int) = bt a0 0 := bt_at a0 0
                            clear p24
                            have qi24 : (0 < (a0.size : Int)) = True := eq_true (of_decide_eq_true (by first | (with_reducible assumption) | assumption))
                            replace q24 := eq_true q24
                            have p26 : 0 ≤ (0 : Int) := (by omega)
                            have q26 : 0 < a0.size := (by have : (0 : Int) < (a0.size : Int) := of_decide_eq_true (by first | (with_reducible assumption) | assumption); omega)
                            have hx26 : ∀ h : 0 < a0.size, ((a0[0]'h).toNat : Int) = bt a0 0 := bt_at a0 0
                            clear p26
                            have qi26 : (0 < (a0.size : Int)) = True := eq_true (of_decide_eq_true (by first | (with_reducible assumption) | assumption))
                            replace q26 := eq_true q26
                            go_wp2
                            go_meet
                            case rel => exact ⟨_, (0), (0), (0), (by first | rfl | (simp; done) | (simp [*]; done)), (by first | rfl | (simp; done) | (simp [*]; done)), (by first | rfl | (simp; done) | (simp [*]; done)), H', ⟨by have := HJ7.out; have := HJ14.out; first | omega | exact Nat.le_refl _⟩, by repeat (first | exact Drawn0.refl _ | apply Drawn0.step)⟩
                        · rw [if_neg c25] at H
                          have c25b0 : decide (240 ≤ (bt a0 0)) = false := decide_eq_false c25
                          clear c25
                          have H' := Aside0.mk H
                          clear H
                          have p24 : 0 ≤ (0 : Int) := (by omega)
                          have q24 : 0 < a0.size := (by have : (0 : Int) < (a0.size : Int) := of_decide_eq_true (by first | (with_reducible assumption) | assumption); omega)
                          have hx24 : ∀ h : 0 < a0.size, ((a0[0]'h).toNat : Int) = bt a0 0 := bt_at a0 0
                          clear p24
                          have qi24 : (0 < (a0.size : Int)) = True := eq_true (of_decide_eq_true (by first | (with_reducible assumption) | assumption))
                          replace q24 := eq_true q24
                          go_wp2
                          go_meet
                          case rel => exact ⟨_, (0), (0), (0), (by first | rfl | (simp; done) | (simp [*]; done)), (by first | rfl | (simp; done) | (simp [*]; done)), (by first | rfl | (simp; done) | (simp [*]; done)), H', ⟨by have := HJ7.out; have := HJ14.out; first | omega | exact Nat.le_refl _⟩, by repeat (first | exact Drawn0.refl _ | apply Drawn0.step)⟩
                      · rw [if_neg c23] at H
                        exact absurd H (by simp)
        case rest =>
          clear HC7
          try clear c1
          try clear p1
          try clear q1
          try clear hx1
          try clear qi1
          try clear c2
          try clear c2b0
          try clear c2b1
          try clear p2
          try clear q2
          try clear hx2
          try clear qi2
          try clear c3
          try clear c3b0
          try clear c3b1
          try clear p3
          try clear p4
          try clear q4
          try clear hx4
          try clear qi4
          try clear c5
          try clear c5b0
          try clear p6
          try clear q6
          try clear hx6
          try clear qi6
          try clear c7
          try clear p9
          try clear q9
          try clear hx9
          try clear qi9
          try clear c10
          try clear c10b0
          try clear p11
          try clear q11
          try clear hx11
          try clear qi11
          try clear c12
          try clear c13
          try clear c13b0
          try clear c13b1
          try clear c14
          try clear p14
          try clear q14
          try clear hx14
          try clear qi14
          try clear c16
          try clear c16b0
          try clear c16b1
          try clear p17
          try clear q17
          try clear hx17
          try clear qi17
          try clear c18
          try clear c18b0
          try clear p19
          try clear q19
          try clear hx19
          try clear qi19
          try clear c20
          try clear c21
          try clear c21b0
          try clear c21b1
          try clear p22
          try clear q22
          try clear hx22
          try clear qi22
          try clear c23
          try clear c23b0
          try clear c23b1
          try clear p24
          try clear q24
          try clear hx24
          try clear qi24
          try clear c25
          try clear c25b0
          try clear p26
          try clear q26
          try clear hx26
          try clear qi26
          try clear c27
          try clear c27b0
          try clear p28
          try clear q28
          try clear hx28
          try clear qi28
          try clear p1
          try clear p11
          try clear p14
          try clear p17
          try clear p19
          try clear p2
          try clear p22
          try clear p24
          try clear p26
          try clear p28
          try clear p3
          try clear p4
          try clear p6
          try clear p9
          try clear q1
          try clear q11
          try clear q14
          try clear q17
          try clear q19
          try clear q22
          try clear q24
          try clear q26
          try clear q28
          try clear q4
          try clear q6
          try clear q9
          obtain ⟨kq, x4_6, x5_6, x6_6, rfl, rfl, rfl, HA, HJ6, ⟨mc6, rfl⟩⟩ := hcut
          cases kq with
          | zero => exact absurd HA.out (by simp [letterlockref1_first.j2])
          | succ kj6 =>
            have H := HA.out
            clear HA
            simp only [letterlockref1_first.j2] at H
            have HC29 := Aside0.mk H
            clear H
            go_upto_region 20 with (fail)
            go_cut [62] (fun v62 wc => ∃ (kq : Nat) (x62_28 : Bool), v62 = .bool x62_28 ∧ Aside0 (letterlockref1_first.j3 kq a0 x4_6 x5_6 x6_6 x62_28 = some (r1, r2)) ∧ Aside0 (kq ≤ kj6) ∧ Drawn0 w wc)
            case first =>
              have H := HC29.out
              clear HC29
              by_cases c30 : x4_6 = 0
              · rw [if_pos c30] at H
                have c30b0 : (x4_6 == 0) = true := beq_iff_eq.mpr c30
                have c30b1 : (x4_6 != 0) = false := bne_eq_false_iff_eq.mpr c30
                clear c30
                (first | rw [c30b0] | (simp only [i64_w, i32_w]; rw [c30b0]) | skip)
                have H' := Aside0.mk H
                clear H
                go_wp2
                go_meet
                case rel => exact ⟨_, (true), (by first | rfl | (simp; done) | (simp [*]; done)), H', ⟨by have := HJ6.out; first | omega | exact Nat.le_refl _⟩, by repeat (first | exact Drawn0.refl _ | apply Drawn0.step)⟩
              · rw [if_neg c30] at H
                have c30b0 : (x4_6 == 0) = false := beq_eq_false_iff_ne.mpr c30
                have c30b1 : (x4_6 != 0) = true := bne_iff_ne.mpr c30
                (first | rw [c30b0] | (simp only [i64_w, i32_w]; rw [c30b0]) | skip)
                have H' := Aside0.mk H
                clear H
                go_wp2
                go_meet
                case rel => exact ⟨_, (decide ((a0.size : Int) < x4_6)), (by first | rfl | (simp; done) | (simp [*]; done)), H', ⟨by have := HJ6.out; first | omega | exact Nat.le_refl _⟩, by repeat (first | exact Drawn0.refl _ | apply Drawn0.step)⟩
            case rest =>
              clear HC29
              try clear c1
              try clear p1
              try clear q1
              try clear hx1
              try clear qi1
              try clear c2
              try clear c2b0
              try clear c2b1
              try clear p2
              try clear q2
              try clear hx2
              try clear qi2
              try clear c3
              try clear c3b0
              try clear c3b1
              try clear p3
              try clear p4
              try clear q4
              try clear hx4
              try clear qi4
              try clear c5
              try clear c5b0
              try clear c6
              try clear p6
              try clear q6
              try clear hx6
              try clear qi6
              try clear c7
              try clear p9
              try clear q9
              try clear hx9
              try clear qi9
              try clear c10
              try clear c10b0
              try clear p11
              try clear q11
              try clear hx11
              try clear qi11
              try clear c12
              try clear c13
              try clear c13b0
              try clear c13b1
              try clear c14
              try clear p14
              try clear q14
              try clear hx14
              try clear qi14
              try clear c16
              try clear c16b0
              try clear c16b1
              try clear p17
              try clear q17
              try clear hx17
              try clear qi17
              try clear c18
              try clear c18b0
              try clear p19
              try clear q19
              try clear hx19
              try clear qi19
              try clear c20
              try clear c21
              try clear c21b0
              try clear c21b1
              try clear p22
              try clear q22
              try clear hx22
              try clear qi22
              try clear c23
              try clear c23b0
              try clear c23b1
              try clear p24
              try clear q24
              try clear hx24
              try clear qi24
              try clear c25
              try clear c25b0
              try clear p26
              try clear q26
              try clear hx26
              try clear qi26
              try clear c27
              try clear c27b0
              try clear p28
              try clear q28
              try clear hx28
              try clear qi28
              try clear c30
              try clear c30b0
              try clear c30b1
              try clear p1
              try clear p11
              try clear p14
              try clear p17
              try clear p19
              try clear p2
              try clear p22
              try clear p24
              try clear p26
              try clear p28
              try clear p3
              try clear p4
              try clear p6
              try clear p9
              try clear q1
              try clear q11
              try clear q14
              try clear q17
              try clear q19
              try clear q2
              try clear q22
              try clear q24
              try clear q26
              try clear q28
              try clear q4
              try clear q6
              try clear q9
              obtain ⟨kq, x62_28, rfl, HA, HJ28, ⟨mc28, rfl⟩⟩ := hcut
              cases kq with
              | zero => exact absurd HA.out (by simp [letterlockref1_first.j3])
              | succ kj28 =>
                have H := HA.out
                clear HA
                simp only [letterlockref1_first.j3] at H
                by_cases c31 : x62_28 = true
                · subst c31
                  have H1 : (some (0, 0)) = some (r1, r2) := by rw [if_pos rfl] at H; exact H
                  clear H
                  have H := H1
                  clear H1
                  simp only [Option.some.injEq, Prod.mk.injEq] at H
                  obtain ⟨rfl, rfl⟩ := H
                  go_wp2
                  go_ret2
                  exact ⟨by first | rfl | (simp; done) | (simp [*]; done), by repeat (first | exact Drawn0.refl _ | apply Drawn0.step)⟩
                · replace c31 := Bool.eq_false_iff.mpr c31
                  subst c31
                  have H1 : (letterlockref1_first.l0 kj28 a0 x4_6 x5_6 x6_6 1) = some (r1, r2) := by rw [if_neg (show ¬ (false = true) by decide)] at H; exact H
                  clear H
                  have H := H1
                  clear H1
                  have H' := Aside0.mk H
                  clear H
                  go_wp2
                  go_loopg [5, 7] kj28 (fun kq v5 v7 w' => ∃ (x5_3 : Int) (x7_3 : Int), v5 = .int .i32 x5_3 ∧ v7 = .int .i64 x7_3 ∧ Aside0 (letterlockref1_first.l0 kq a0 x4_6 x5_3 x6_6 x7_3 = some (r1, r2)) ∧ Aside0 (kq ≤ kj28) ∧ Drawn0 w w')
                  case atStart => exact ⟨(x5_6), (1), (by first | rfl | (simp; done) | (simp [*]; done)), (by first | rfl | (simp; done) | (simp [*]; done)), H', ⟨Nat.le_refl _⟩, by repeat (first | exact Drawn0.refl _ | apply Drawn0.step)⟩
                  case round =>
                    clear H'
                    try clear c1
                    try clear p1
                    try clear q1
                    try clear hx1
                    try clear qi1
                    try clear c2
                    try clear c2b0
                    try clear c2b1
                    try clear p2
                    try clear q2
                    try clear hx2
                    try clear qi2
                    try clear c3
                    try clear c3b0
                    try clear c3b1
                    try clear p3
                    try clear p4
                    try clear q4
                    try clear hx4
                    try clear qi4
                    try clear c5
                    try clear c5b0
                    try clear c6
                    try clear p6
                    try clear q6
                    try clear hx6
                    try clear qi6
                    try clear c7
                    try clear p9
                    try clear q9
                    try clear hx9
                    try clear qi9
                    try clear c10
                    try clear c10b0
                    try clear p11
                    try clear q11
                    try clear hx11
                    try clear qi11
                    try clear c12
                    try clear c13
                    try clear c13b0
                    try clear c13b1
                    try clear c14
                    try clear p14
                    try clear q14
                    try clear hx14
                    try clear qi14
                    try clear c16
                    try clear c16b0
                    try clear c16b1
                    try clear p17
                    try clear q17
                    try clear hx17
                    try clear qi17
                    try clear c18
                    try clear c18b0
                    try clear p19
                    try clear q19
                    try clear hx19
                    try clear qi19
                    try clear c20
                    try clear c21
                    try clear c21b0
                    try clear c21b1
                    try clear p22
                    try clear q22
                    try clear hx22
                    try clear qi22
                    try clear c23
                    try clear c23b0
                    try clear c23b1
                    try clear p24
                    try clear q24
                    try clear hx24
                    try clear qi24
                    try clear c25
                    try clear c25b0
                    try clear p26
                    try clear q26
                    try clear hx26
                    try clear qi26
                    try clear c27
                    try clear c27b0
                    try clear c28
                    try clear p28
                    try clear q28
                    try clear hx28
                    try clear qi28
                    try clear c30
                    try clear c30b0
                    try clear c30b1
                    try clear c31
                    try clear p1
                    try clear p11
                    try clear p14
                    try clear p17
                    try clear p19
                    try clear p2
                    try clear p22
                    try clear p24
                    try clear p26
                    try clear p28
                    try clear p3
                    try clear p4
                    try clear p6
                    try clear p9
                    try clear q1
                    try clear q11
                    try clear q14
                    try clear q17
                    try clear q19
                    try clear q2
                    try clear q22
                    try clear q24
                    try clear q26
                    try clear q28
                    try clear q4
                    try clear q6
                    try clear q9
                    obtain ⟨x5_3, x7_3, rfl, rfl, HA, HK3, ⟨m3, rfl⟩⟩ := hrel
                    cases gk with
                    | zero => exact absurd HA.out (by simp [letterlockref1_first.l0])
                    | succ k3 =>
                      have H := HA.out
                      clear HA
                      simp only [letterlockref1_first.l0] at H
                      by_cases c32 : x7_3 < x4_6
                      · rw [if_pos c32] at H
                        have c32b0 : decide (x7_3 < x4_6) = true := decide_eq_true c32
                        clear c32
                        by_cases c33 : 0 ≤ x7_3
                        · rw [if_pos c33] at H
                          have c33b0 : decide (0 ≤ x7_3) = true := decide_eq_true c33
                          clear c33
                          by_cases c34 : x7_3 < (a0.size : Int)
                          · rw [if_pos c34] at H
                            have c34b0 : decide (x7_3 < (a0.size : Int)) = true := decide_eq_true c34
                            clear c34
                            by_cases c36 : (bt a0 x7_3) < 128
                            · rw [if_pos c36] at H
                              have c36b0 : decide ((bt a0 x7_3) < 128) = true := decide_eq_true c36
                              clear c36
                              simp only [Option.some.injEq, Prod.mk.injEq] at H
                              obtain ⟨rfl, rfl⟩ := H
                              have p35 : 0 ≤ (x7_3 : Int) := of_decide_eq_true (by first | (with_reducible assumption) | assumption)
                              have q35 : x7_3 < (a0.size : Int) := of_decide_eq_true (by first | (with_reducible assumption) | assumption)
                              have hx35 := bt_at a0 x7_3
                              replace p35 := eq_true p35
                              replace q35 := eq_true q35
                              go_wp2
                              go_ret2
                              exact ⟨by first | rfl | (simp; done) | (simp [*]; done), by repeat (first | exact Drawn0.refl _ | apply Drawn0.step)⟩
                            · rw [if_neg c36] at H
                              have c36b0 : decide ((bt a0 x7_3) < 128) = false := decide_eq_false c36
                              clear c36
                              by_cases c38 : (bt a0 x7_3) > 191
                              · rw [if_pos c38] at H
                                have c38b0 : decide (191 < (bt a0 x7_3)) = true := decide_eq_true c38
                                clear c38
                                simp only [Option.some.injEq, Prod.mk.injEq] at H
                                obtain ⟨rfl, rfl⟩ := H
                                have p35 : 0 ≤ (x7_3 : Int) := of_decide_eq_true (by first | (with_reducible assumption) | assumption)
                                have q35 : x7_3 < (a0.size : Int) := of_decide_eq_true (by first | (with_reducible assumption) | assumption)
                                have hx35 := bt_at a0 x7_3
                                replace p35 := eq_true p35
                                replace q35 := eq_true q35
                                have p37 : 0 ≤ (x7_3 : Int) := of_decide_eq_true (by first | (with_reducible assumption) | assumption)
                                have q37 : x7_3 < (a0.size : Int) := of_decide_eq_true (by first | (with_reducible assumption) | assumption)
                                have hx37 := bt_at a0 x7_3
                                replace p37 := eq_true p37
                                replace q37 := eq_true q37
                                go_wp2
                                go_ret2
                                exact ⟨by first | rfl | (simp; done) | (simp [*]; done), by repeat (first | exact Drawn0.refl _ | apply Drawn0.step)⟩
                              · rw [if_neg c38] at H
                                have c38b0 : decide (191 < (bt a0 x7_3)) = false := decide_eq_false c38
                                clear c38
                                have H' := Aside0.mk H
                                clear H
                                have p35 : 0 ≤ (x7_3 : Int) := of_decide_eq_true (by first | (with_reducible assumption) | assumption)
                                have q35 : x7_3 < (a0.size : Int) := of_decide_eq_true (by first | (with_reducible assumption) | assumption)
                                have hx35 := bt_at a0 x7_3
                                replace p35 := eq_true p35
                                replace q35 := eq_true q35
                                have p37 : 0 ≤ (x7_3 : Int) := of_decide_eq_true (by first | (with_reducible assumption) | assumption)
                                have q37 : x7_3 < (a0.size : Int) := of_decide_eq_true (by first | (with_reducible assumption) | assumption)
                                have hx37 := bt_at a0 x7_3
                                replace p37 := eq_true p37
                                replace q37 := eq_true q37
                                have p39 : 0 ≤ (x7_3 : Int) := of_decide_eq_true (by first | (with_reducible assumption) | assumption)
                                have q39 : x7_3 < (a0.size : Int) := of_decide_eq_true (by first | (with_reducible assumption) | assumption)
                                have hx39 := bt_at a0 x7_3
                                replace p39 := eq_true p39
                                replace q39 := eq_true q39
                                go_wp2
                                go_roundg k3
                                case measure => have := HJ6.out; have := HJ28.out; have := HK3.out; omega
                                case rel => exact ⟨(wrap32 ((wrap32 (64 * x5_3)) + (((bt a0 x7_3) - 128) % 256))), (wrap64 (x7_3 + 1)), (by first | rfl | (simp; done) | (simp [*]; done)), (by first | rfl | (simp; done) | (simp [*]; done)), H', ⟨by have := HJ6.out; have := HJ28.out; have := HK3.out; omega⟩, by repeat (first | exact Drawn0.refl _ | apply Drawn0.step)⟩
                          · rw [if_neg c34] at H
                            exact absurd H (by simp)
                        · rw [if_neg c33] at H
                          exact absurd H (by simp)
                      · rw [if_neg c32] at H
                        have c32b0 : decide (x7_3 < x4_6) = false := decide_eq_false c32
                        clear c32
                        by_cases c40 : x5_3 < x6_6
                        · rw [if_pos c40] at H
                          have c40b0 : decide (x5_3 < x6_6) = true := decide_eq_true c40
                          clear c40
                          simp only [Option.some.injEq, Prod.mk.injEq] at H
                          obtain ⟨rfl, rfl⟩ := H
                          go_wp2
                          go_ret2
                          exact ⟨by first | rfl | (simp; done) | (simp [*]; done), by repeat (first | exact Drawn0.refl _ | apply Drawn0.step)⟩
                        · rw [if_neg c40] at H
                          have c40b0 : decide (x5_3 < x6_6) = false := decide_eq_false c40
                          clear c40
                          replace H := Option.bind_eq_some_iff.mp H
                          obtain ⟨t156, A410, H⟩ := H
                          replace H : (if t156 = true then (some (x5_3, x4_6)) else (some (0, 0))) = some (r1, r2) := H
                          have A41 := Aside0.mk A410
                          clear A410
                          by_cases c42 : t156 = true
                          · subst c42
                            have H1 : (some (x5_3, x4_6)) = some (r1, r2) := by rw [if_pos rfl] at H; exact H
                            clear H
                            have H := H1
                            clear H1
                            simp only [Option.some.injEq, Prod.mk.injEq] at H
                            obtain ⟨rfl, rfl⟩ := H
                            go_wp2_with (first | (go_at_call 84; (with_reducible refine (letterlockref1_valid.calls x5_3 true _ A41.out).mono ?_); rintro e w' ⟨rfl, ⟨nd, rfl⟩⟩))
                            go_ret2
                            exact ⟨by first | rfl | (simp; done) | (simp [*]; done), by repeat (first | exact Drawn0.refl _ | apply Drawn0.step)⟩
                          · replace c42 := Bool.eq_false_iff.mpr c42
                            subst c42
                            have H1 : (some (0, 0)) = some (r1, r2) := by rw [if_neg (show ¬ (false = true) by decide)] at H; exact H
                            clear H
                            have H := H1
                            clear H1
                            simp only [Option.some.injEq, Prod.mk.injEq] at H
                            obtain ⟨rfl, rfl⟩ := H
                            go_wp2_with (first | (go_at_call 84; (with_reducible refine (letterlockref1_valid.calls x5_3 false _ A41.out).mono ?_); rintro e w' ⟨rfl, ⟨nd, rfl⟩⟩))
                            go_ret2
                            exact ⟨by first | rfl | (simp; done) | (simp [*]; done), by repeat (first | exact Drawn0.refl _ | apply Drawn0.step)⟩
    · rw [if_neg c3] at H
      exact absurd H (by simp)
end Go.Proofs.YtfhanoloaejmkaaDoor.PA
end
