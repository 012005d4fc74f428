/- The contract of closure's all: all that those have who hold some terms. -/
import Derived.Test.YtnieihhnchefdaaKeys
import Derived.LoopTactic
namespace Go.Proofs.Ytnieihhnchefdaa
open Go.RowKit Go.Maps Go.Proofs.YtnieihhnchefdaaW.PrintWords
set_option linter.unusedVariables false

/-! ### Plain words -/
def termsOf (l : List ByteArray) : List T := l.filterMap fun s => termOf (bytes s)
theorem right_tB {s : ByteArray} (h : right s = true) : ∃ t, Wf t ∧ s = tB t ∧ termOf (bytes s) = some t := by
  unfold right at h
  obtain ⟨t, ht⟩ := Option.isSome_iff_exists.1 h
  obtain ⟨h1, h2⟩ := termOf_inv ht
  exact ⟨t, h2, bs_inj (by rw [h1]; exact (bytes_ofBytes _).symm), ht⟩
theorem termsOf_take {l : List ByteArray} {k : Nat} (hk : k < l.length) {t : T} (ht : termOf (bytes l[k]) = some t) : termsOf (l.take (k + 1)) = termsOf (l.take k) ++ [t] := by
  unfold termsOf
  rw [List.take_succ_eq_append_getElem hk, List.filterMap_append]
  simp [ht]
theorem addAll_app (S a b : List T) : addAll S (a ++ b) = addAll (addAll S a) b := by unfold addAll; rw [List.foldl_append]
theorem subT_wf {t x : T} (h : Wf t) (hx : x ∈ subT t) : Wf x := by
  induction t with
  | atom n => simp only [subT, List.mem_singleton] at hx; rw [hx]; exact h
  | text n => simp only [subT, List.mem_singleton] at hx; rw [hx]; exact h
  | one k a ih =>
    simp only [subT, List.mem_cons] at hx
    rcases hx with rfl | hx
    · exact h
    · exact ih (wf_parts h (by simp [T.parts])) hx
  | two k a b iha ihb =>
    simp only [subT, List.mem_cons, List.mem_append] at hx
    rcases hx with rfl | hx | hx
    · exact h
    · exact iha (wf_parts h (by simp [T.parts])) hx
    · exact ihb (wf_parts h (by simp [T.parts])) hx
theorem hadL_wf {h : List T} (hw : ∀ t ∈ h, Wf t) : ∀ x ∈ hadL h, Wf x := fun x hx => by
  obtain ⟨u, hu, h1⟩ := List.mem_flatMap.1 (hadL_sub h x hx)
  exact subT_wf (hw u hu) h1
theorem termsOf_wf (l : List ByteArray) : ∀ t ∈ termsOf l, Wf t := fun t ht => by
  obtain ⟨s, _, hs⟩ := List.mem_filterMap.1 ht
  exact (termOf_inv hs).2

/-! ### Cells beside a map -/
theorem map_cell_ne {w : World} {b : Nat} {S : List T} (hS : HadAt w b S) {a : Addr} {v : Value} (h : w.cell? a = some v) : some a.block ≠ some b := by
  obtain ⟨D, ⟨es, clock, h1, _⟩, _⟩ := hS
  intro e
  have e := Option.some.inj e
  unfold World.cell? at h
  rw [e, h1] at h
  simp at h
theorem ReadsB.grown {w w' : World} {A : Option Addr} {l : List ByteArray} {b : Nat} {S : List T} (h : ReadsB w A l) (hS : HadAt w b S) (hg : w.grownBy w' (some b)) : ReadsB w' A l := fun k hk => by
  obtain ⟨ad, h1, h2⟩ := h k hk
  exact ⟨ad, h1, hg.cell h2 (map_cell_ne hS h2)⟩

/-! ### What the loops keep -/
def AllPost (l : List ByteArray) (w : World) (e : Ending) (w' : World) : Prop :=
  (if l.all right = true then (if 200 < l.length then e = .returned (.tuple #[.map none, .int .i64 10]) else ∃ b S, e = .returned (.tuple #[.map (some b), .int .i64 0]) ∧ HadAt w' b S ∧ (∀ x, x ∈ S ↔ x ∈ hadL (termsOf l)))
    else e = .returned (.tuple #[.map none, .int .i64 1])) ∧ Below w.heap.size w w'
def FirstR (l : List ByteArray) (w : World) (k : Nat) (wr : World) : Prop :=
  (∀ j (hj : j < l.length), j < k → right l[j] = true) ∧ HadAt wr w.heap.size (addAll [] (termsOf (l.take k))) ∧ Below w.heap.size w wr ∧ w.heap.size ≤ wr.heap.size
def RoundR (l : List ByteArray) (w : World) (S : List T) (wr : World) : Prop :=
  HadAt wr w.heap.size S ∧ (∀ x ∈ termsOf l, x ∈ S) ∧ (∀ x ∈ S, x ∈ hadL (termsOf l)) ∧ Below w.heap.size w wr ∧ w.heap.size ≤ wr.heap.size
theorem FirstR.below {l : List ByteArray} {w wr w5 : World} {k : Nat} (h : FirstR l w k wr) (hb : Below wr.heap.size wr w5) : FirstR l w k w5 :=
  ⟨h.1, h.2.1.below hb, h.2.2.1.trans (hb.mono h.2.2.2), Nat.le_trans h.2.2.2 hb.size⟩
theorem RoundR.below {l : List ByteArray} {w wr w5 : World} {S : List T} (h : RoundR l w S wr) (hb : Below wr.heap.size wr w5) : RoundR l w S w5 :=
  ⟨h.1.below hb, h.2.1, h.2.2.1, h.2.2.2.1.trans (hb.mono h.2.2.2.2), Nat.le_trans h.2.2.2.2 hb.size⟩
theorem below_put {w wr w5 : World} (h : Below w.heap.size w wr) (hs : w.heap.size ≤ wr.heap.size) (hg : wr.grownBy w5 (some w.heap.size)) : Below w.heap.size w w5 ∧ w.heap.size ≤ w5.heap.size :=
  ⟨h.grown hg hs (fun j hj => by cases hj; exact Nat.le_refl _), Nat.le_trans hs hg.size⟩
theorem FirstR.put {l : List ByteArray} {w wr w5 : World} {k n : Nat} {D : DataW Unit} (hk : k < l.length) {t : T} (ht : termOf (bytes l[k]) = some t) (hr : right l[k] = true) (h : FirstR l w k wr)
    (hD : HadD (addAll [] (termsOf (l.take k))) D) (ho : wr.ownsMap Try.prog 9 unitElem w.heap.size (addAll [] (termsOf (l.take k))).length D)
    (h' : w5.ownsMap Try.prog 9 unitElem w.heap.size n (D.put (.string (enc t)) (.agg []))) (hg : wr.grownBy w5 (some w.heap.size)) : FirstR l w (k + 1) w5 := by
  obtain ⟨h1, h2, h3, h4⟩ := h
  refine ⟨fun j hj hjk => ?_, ?_, below_put h3 h4 hg⟩
  · by_cases e : j = k
    · subst e; exact hr
    · exact h1 j hj (by omega)
  · rw [termsOf_take hk ht, addAll_app]
    exact hadAt_put hD ho (termOf_inv ht).2 h'
theorem RoundR.put {l : List ByteArray} {w wr w5 : World} {n : Nat} {S : List T} {D : DataW Unit} {t : T} (ht : t ∈ hadL (termsOf l)) (h : RoundR l w S wr)
    (hD : HadD S D) (ho : wr.ownsMap Try.prog 9 unitElem w.heap.size S.length D)
    (h' : w5.ownsMap Try.prog 9 unitElem w.heap.size n (D.put (.string (enc t)) (.agg []))) (hg : wr.grownBy w5 (some w.heap.size)) : RoundR l w (addAll S [t]) w5 := by
  obtain ⟨h1, h2, h3, h4, h5⟩ := h
  refine ⟨hadAt_put hD ho (hadL_wf (termsOf_wf l) t ht) h', fun x hx => (mem_addAll S [t] x).2 (Or.inl (h2 x hx)), fun x hx => ?_, below_put h4 h5 hg⟩
  rcases (mem_addAll S [t] x).1 hx with hx | hx
  · exact h3 x hx
  · rw [List.mem_singleton.1 hx]; exact ht
theorem hadAt_nodup {w : World} {b : Nat} {S : List T} (h : HadAt w b S) : S.Nodup := by
  obtain ⟨D, _, h⟩ := h
  exact h.2.1

theorem gives_len (S : List T) (t : T) : (gives S t).length ≤ 2 := by
  cases t with
  | atom n => simp [gives]
  | text n => simp [gives]
  | one k a => simp [gives]
  | two k a b =>
    cases k with
    | p => simp [gives]
    | g => simp [gives]
    | s => simp only [gives]; split <;> simp
    | b =>
      cases a with
      | atom n => simp [gives]
      | text n => simp [gives]
      | two k a c => simp [gives]
      | one k a => simp only [gives]; split <;> simp
theorem subT_len (t : T) : (subT t).length ≤ (enc t).length := by
  induction t with
  | atom n => exact enc_pos _
  | text n => exact enc_pos _
  | one k a ih => simp only [subT, enc, List.length_cons]; omega
  | two k a b iha ihb => simp only [subT, enc, List.length_cons, List.length_append]; omega
theorem flat_len (h : List T) (hw : ∀ t ∈ h, Wf t) : (h.flatMap subT).length ≤ 4000 * h.length := by
  induction h with
  | nil => simp
  | cons t h ih =>
    rw [List.flatMap_cons, List.length_append, List.length_cons]
    have h1 := subT_len t
    have h2 := (hw t List.mem_cons_self).2
    have h3 := ih (fun x hx => hw x (List.mem_cons_of_mem _ hx))
    omega
theorem hadL_len (l : List ByteArray) (hl : l.length ≤ 200) : ∀ S : List T, S.Nodup → (∀ x ∈ S, x ∈ hadL (termsOf l)) → S.length ≤ 800000 := by
  intro S hn hs
  have h1 := nodup_len (U := (termsOf l).flatMap subT) hn (fun x hx => hadL_sub _ x (hs x hx))
  have h2 := flat_len (termsOf l) (termsOf_wf l)
  have h3 : (termsOf l).length ≤ l.length := List.length_filterMap_le _ _
  omega
/-- The terms' bytes, ascending. -/
def LT (S : List T) : List ByteArray := (sortT S).map tB
theorem LT_len (S : List T) : (LT S).length = S.length := by unfold LT; rw [List.length_map, len_sortT]
def LTat (S : List T) (k : Nat) : Option T := (sortT S)[k]?
theorem LT_get (S : List T) (k : Nat) (hk : k < S.length) : ∃ t, t ∈ S ∧ LTat S k = some t ∧ ∃ h : k < (LT S).length, (LT S)[k] = tB t := by
  have h1 : k < (sortT S).length := by rw [len_sortT]; exact hk
  refine ⟨(sortT S)[k], (mem_sortT S _).1 (List.getElem_mem h1), List.getElem?_eq_getElem h1, by rw [LT_len]; exact hk, ?_⟩
  unfold LT
  rw [List.getElem_map]
theorem LT_all (S : List T) (t : T) (h : t ∈ S) : ∃ k, k < S.length ∧ LTat S k = some t := by
  obtain ⟨k, hk, e⟩ := List.getElem_of_mem ((mem_sortT S t).2 h)
  exact ⟨k, by rwa [len_sortT] at hk, by unfold LTat; rw [List.getElem?_eq_getElem hk, e]⟩
/-- What the loop over what was had keeps. -/
def MidR (l : List ByteArray) (w : World) (S : List T) (A2 : Option Addr) (k : Nat) (S2 : List T) (wr : World) : Prop :=
  RoundR l w S2 wr ∧ ReadsB wr A2 (LT S) ∧ (∀ x ∈ S, x ∈ S2) ∧ ∀ j t, j < k → LTat S j = some t → ∀ x ∈ gives S t, x ∈ S2
/-- What the loop over what one gives keeps. -/
def InR (l : List ByteArray) (w : World) (S : List T) (A2 A3 : Option Addr) (S2 g : List T) (k2 : Nat) (S3 : List T) (wr : World) : Prop :=
  RoundR l w S3 wr ∧ ReadsB wr A2 (LT S) ∧ ReadsB wr A3 (g.map tB) ∧ (∀ x ∈ S2, x ∈ S3) ∧ ∀ j (hj : j < g.length), j < k2 → g[j] ∈ S3
theorem InR.start {l : List ByteArray} {w : World} {S : List T} {A2 A3 : Option Addr} {S2 g : List T} {k : Nat} {wr w4 : World} (h : MidR l w S A2 k S2 wr) (hb : Below wr.heap.size wr w4) (hg : ReadsB w4 A3 (g.map tB)) : InR l w S A2 A3 S2 g 0 S2 w4 :=
  ⟨h.1.below hb, h.2.1.below hb, hg, fun x hx => hx, fun j hj h => by omega⟩
theorem InR.put {l : List ByteArray} {w wr w5 : World} {S : List T} {A2 A3 : Option Addr} {S2 g : List T} {k2 n : Nat} {S3 : List T} {D : DataW Unit} (hk : k2 < g.length) (h : InR l w S A2 A3 S2 g k2 S3 wr) (hg : g[k2] ∈ hadL (termsOf l))
    (hD : HadD S3 D) (ho : wr.ownsMap Try.prog 9 unitElem w.heap.size S3.length D)
    (h' : w5.ownsMap Try.prog 9 unitElem w.heap.size n (D.put (.string (enc g[k2])) (.agg []))) (hgr : wr.grownBy w5 (some w.heap.size)) : InR l w S A2 A3 S2 g (k2 + 1) (addAll S3 [g[k2]]) w5 := by
  obtain ⟨h1, h2, h3, h4, h5⟩ := h
  refine ⟨h1.put hg hD ho h' hgr, h2.grown h1.1 hgr, h3.grown h1.1 hgr, fun x hx => (mem_addAll _ _ x).2 (Or.inl (h4 x hx)), fun j hj hjk => ?_⟩
  by_cases e : j = k2
  · subst e; exact (mem_addAll _ _ _).2 (Or.inr (by simp))
  · exact (mem_addAll _ _ _).2 (Or.inl (h5 j hj (by omega)))
theorem InR.done {l : List ByteArray} {w wr : World} {S : List T} {A2 A3 : Option Addr} {S2 : List T} {k : Nat} {t : T} {S3 : List T} {wm : World} (hm : MidR l w S A2 k S2 wm) (ht : LTat S k = some t)
    (h : InR l w S A2 A3 S2 (gives S2 t) (gives S2 t).length S3 wr) : MidR l w S A2 (k + 1) S3 wr := by
  obtain ⟨h1, h2, h3, h4, h5⟩ := h
  refine ⟨h1, h2, fun x hx => h4 x (hm.2.2.1 x hx), fun j u hj hu x hx => ?_⟩
  by_cases e : j = k
  · subst e
    rw [ht] at hu
    obtain rfl := Option.some.inj hu
    have hx2 := gives_mono hm.2.2.1 t x hx
    obtain ⟨i, hi, rfl⟩ := List.getElem_of_mem hx2
    exact h5 i hi hi
  · exact h4 x (hm.2.2.2 j u (by omega) hu x hx)
theorem MidR.done {l : List ByteArray} {w wr : World} {S : List T} {A2 : Option Addr} {S2 : List T} (hS : S.Nodup) (h : MidR l w S A2 S.length S2 wr) : S.length ≤ S2.length ∧ (S.length = S2.length → ClosedT S2) := by
  obtain ⟨h1, h2, h3, h4⟩ := h
  refine ⟨nodup_len hS h3, fun e => ?_⟩
  have h2n := hadAt_nodup h1.1
  have hback : ∀ x ∈ S2, x ∈ S := by
    intro x hx
    by_cases hxs : x ∈ S
    · exact hxs
    · have := nodup_len (S := x :: S) (U := S2) (List.nodup_cons.2 ⟨hxs, hS⟩) (fun y hy => by
        rcases List.mem_cons.1 hy with rfl | hy
        · exact hx
        · exact h3 y hy)
      rw [List.length_cons] at this
      omega
  intro t ht x hx
  obtain ⟨k, hk, hkt⟩ := LT_all S t (hback t ht)
  exact h4 k t hk hkt x (gives_mono hback t x hx)

end Go.Proofs.Ytnieihhnchefdaa
