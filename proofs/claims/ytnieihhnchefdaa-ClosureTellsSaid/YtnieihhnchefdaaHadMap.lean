/- The map of what is had: what it holds, as a list of terms. -/
import Derived.Test.YtnieihhnchefdaaProg
import Derived.Test.YtnieihhnchefdaaClose
import Derived.Maps.OwnSet
import Derived.Maps.Range
import Derived.Sort.KeysCollected
import Derived.Below
namespace Go.Proofs.Ytnieihhnchefdaa
open Go.RowKit Go.Maps
set_option linter.unusedVariables false

theorem hadLaw : Keyed Try.prog 9 := string_keyed Try.underlying9
def HadD (S : List T) (D : DataW Unit) : Prop :=
  Maps.size D = S.length ∧ S.Nodup ∧ (∀ t ∈ S, Wf t) ∧ ∀ l : List UInt8, Maps.has D (.string l) = S.any (fun t => enc t == l)
/-- Block b is the map that has just these terms. -/
def HadAt (w : World) (b : Nat) (S : List T) : Prop := ∃ D : DataW Unit, w.ownsMap Try.prog 9 unitElem b S.length D ∧ HadD S D
theorem ownsMap_tight {H : Type} {w : World} {P : Program} {k : TypeId} {R : Value → Option (DataW H × List MemPlace)} {b n : Nat} {D : DataW H} (h : w.ownsMap P k R b n D) : w.ownsMap P k R b (Maps.size D) D := by
  obtain ⟨es, clock, h1, h2, h3, h4⟩ := h
  refine ⟨es, clock, h1, h2, ?_, h4⟩
  rw [h4]
  show es.size ≤ (List.foldr DataW.insert [] (es.toList.map (WideElems.rg P k R))).length
  rw [length_read]
  exact Nat.le_refl _
theorem hadD_nil : HadD [] (.map []) := ⟨rfl, List.nodup_nil, fun t h => by simp at h, fun l => rfl⟩
theorem any_enc {S : List T} {t : T} (hS : ∀ u ∈ S, Wf u) (ht : Wf t) : (S.any fun u => enc u == enc t) = S.contains t := by
  cases h : S.contains t with
  | true =>
    exact List.any_eq_true.2 ⟨t, List.contains_iff_mem.1 h, by simp⟩
  | false =>
    refine List.any_eq_false.2 fun u hu he => ?_
    have h1 := enc_inj (hS u hu).1 ht.1 (by simpa using he)
    rw [← h1, List.contains_iff_mem.2 hu] at h
    exact absurd h (by simp)
theorem hadD_has {S : List T} {D : DataW Unit} (h : HadD S D) {t : T} (ht : Wf t) : Maps.has D (.string (enc t)) = S.contains t := by
  rw [h.2.2.2, any_enc h.2.2.1 ht]
theorem isKey_string (l : List UInt8) : WideAt.IsKeyLit (.string l) := by simp [WideAt.IsKeyLit]
theorem addAll_one (S : List T) (t : T) : addAll S [t] = if S.contains t then S else S ++ [t] := rfl
theorem hadD_put {S : List T} {D : DataW Unit} (h : HadD S D) (hT : Tidy D) {t : T} (ht : Wf t) (u : DataW Unit) : HadD (addAll S [t]) (D.put (.string (enc t)) u) := by
  have hh := hadD_has h ht
  obtain ⟨h1, h2, h3, h4⟩ := h
  refine ⟨?_, nodup_addAll _ _ h2, ?_, fun l => ?_⟩
  · rw [size_put hT, hh, addAll_one, h1]
    by_cases hc : S.contains t = true
    · rw [if_pos hc, if_pos hc]
    · rw [if_neg hc, if_neg hc, List.length_append, List.length_singleton]
  · intro x hx
    rcases (mem_addAll S [t] x).1 hx with hx | hx
    · exact h3 x hx
    · rw [List.mem_singleton.1 hx]; exact ht
  · have hany : (addAll S [t]).any (fun t => enc t == l) = (S.any (fun t => enc t == l) || enc t == l) := by
      rw [addAll_one]
      by_cases hc : S.contains t = true
      · rw [if_pos hc]
        cases he : (enc t == l) with
        | false => simp
        | true =>
          rw [Bool.or_true]
          exact List.any_eq_true.2 ⟨t, List.contains_iff_mem.1 hc, he⟩
      · rw [if_neg hc]
        simp
    rw [hany]
    by_cases he : enc t = l
    · subst he
      rw [has_put_same hT.isMap (isKey_string _)]
      simp
    · rw [has_put_other (fun e => he (by injection e with e; exact e.symm)), h4]
      simp [he]
theorem HadAt.lt {w : World} {b : Nat} {S : List T} (h : HadAt w b S) : b < w.heap.size := by
  obtain ⟨D, h1, _⟩ := h
  exact h1.lt
theorem HadAt.of_block {w w' : World} {b : Nat} {S : List T} (h : HadAt w b S) (hb : w'.heap[b]? = w.heap[b]?) : HadAt w' b S := by
  obtain ⟨D, ⟨es, clock, h1, h2, h3, h4⟩, h5⟩ := h
  exact ⟨D, ⟨es, clock, hb.trans h1, h2, h3, h4⟩, h5⟩
theorem HadAt.below {w w' : World} {b : Nat} {S : List T} (h : HadAt w b S) (hb : Below w.heap.size w w') : HadAt w' b S := h.of_block (hb.block b h.lt)
theorem hadAt_put {w w' : World} {b n : Nat} {S : List T} {D : DataW Unit} (h : HadD S D) (ho : w.ownsMap Try.prog 9 unitElem b S.length D) {t : T} (ht : Wf t) {u : DataW Unit}
    (h' : w'.ownsMap Try.prog 9 unitElem b n (D.put (.string (enc t)) u)) : HadAt w' b (addAll S [t]) := by
  have h1 := hadD_put h (ho.tidy hadLaw) ht u
  refine ⟨_, ?_, h1⟩
  have := ownsMap_tight h'
  rwa [h1.1] at this
/-- The keys, ascending. -/
def sortedB (S : List T) : List (List UInt8) := (S.map enc).mergeSort (fun x y => decide (x ≤ y))
theorem hadAt_keys {w : World} {b : Nat} {S : List T} {D : DataW Unit} (h : HadD S D) (ho : w.ownsMap Try.prog 9 unitElem b S.length D) {ss : List (List UInt8)} (hp : ss.Perm (Go.strKeys D)) :
    ss.mergeSort (fun x y => decide (x ≤ y)) = sortedB S := by
  obtain ⟨es, rfl, he, hk⟩ := ho.entries hadLaw
  obtain ⟨h1, h2, h3, h4⟩ := h
  have hk2 : ∀ p ∈ es, ∃ x, p.1 = .string x := by
    intro p hp
    obtain ⟨es', hD', hko⟩ := ho.keysOf
    obtain rfl : es = es' := by simpa using hD'
    obtain ⟨v, hv⟩ := hko p hp
    obtain ⟨x, _, hx, _⟩ := Maps.keyOf_str Try.underlying9 hv
    exact ⟨x, hx⟩
  have hn : (S.map enc).Nodup := by
    refine List.pairwise_map.2 (h2.imp_of_mem fun {a c} ha hc hne e => hne (enc_inj (h3 a ha).1 (h3 c hc).1 e))
  have := Go.perm_strKeys he hk2 hn (fun x => by
    rw [h4]
    simp [List.any_eq_true])
  exact Go.mergeSort_of_perm (hp.trans this.symm)

end Go.Proofs.Ytnieihhnchefdaa
