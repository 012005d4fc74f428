/- slices.Sorted(maps.Keys(h)) at the map of what is had. -/
import Derived.Test.YtnieihhnchefdaaGives
import Derived.Test.YtnieihhnchefdaaIter
namespace Go.Proofs.Ytnieihhnchefdaa
open Go.RowKit Go.Maps Go.Proofs.YtnieihhnchefdaaW.PrintWords
set_option linter.unusedVariables false

def sortT (S : List T) : List T := S.mergeSort (fun x y => decide (enc x ≤ enc y))
theorem sortT_enc (S : List T) : (sortT S).map enc = sortedB S := List.map_mergeSort fun _ _ _ _ => rfl
theorem mem_sortT (S : List T) (t : T) : t ∈ sortT S ↔ t ∈ S := (List.mergeSort_perm S _).mem_iff
theorem len_sortT (S : List T) : (sortT S).length = S.length := List.length_mergeSort S
theorem R_strings {w : World} {base : Nat} {v : Value} {xs : List ByteArray} (ho : w.ownsRow base 9 1 v xs.length (xs.map Value.string)) : Kd.R Kd.string 9 w base (fun _ => True) v xs := by
  refine ⟨fun _ _ => trivial, xs.map Value.string, ho, by simp [Kd.string, Kd.scalar], fun j p hp => ?_⟩
  show ((xs.map Value.string).drop (j * 1)).take 1 = [Value.string p]
  obtain ⟨hj, rfl⟩ := List.getElem?_eq_some_iff.1 hp
  rw [Nat.mul_one, List.drop_eq_getElem_cons (by simpa using hj)]
  simp
theorem keys_calls (b : Nat) (w : World) : Calls Try.prog 49 #[.map (some b)] w fun e w' => e = .returned (.func (.func 73) #[] #[.pointer (some ⟨w.heap.size, 0, none⟩)]) ∧ w' = w.alloc (.cells #[.map (some b)] 56) :=
  callsIn_wide.1 (Try.maps_Keys_49 (some b) w)
theorem sorted_calls (b : Nat) (S : List T) (w : World) (hS : HadAt w b S) (hn : S.length ≤ 1000000000) :
    Calls Try.prog 48 #[.func (.func 73) #[] #[.pointer (some ⟨w.heap.size, 0, none⟩)]] (w.alloc (.cells #[.map (some b)] 56)) fun e w' =>
      ∃ v, e = .returned v ∧ Kd.R Kd.string 9 w' (w.heap.size + 1) (fun _ => True) v ((sortT S).map tB) ∧ Below w.heap.size w w' := by
  obtain ⟨D, hown, hD⟩ := hS
  have hz : Maps.size D = S.length := hD.1
  refine (callsIn_wide.1 (Try.slices_Sorted_keys_48_49 b S.length D unitElem w hown (by rw [hz]; unfold maxLen; omega) (by rw [hz]; omega))).mono ?_
  rintro e w' ⟨v, ss, rfl, hp, hrow, _, hb⟩
  rw [hadAt_keys (w := w) hD hown hp, ← sortT_enc] at hrow
  have hl : ss.length = ((sortT S).map tB).length := by
    have h1 := hadAt_keys (w := w) hD hown hp
    have h2 := congrArg List.length h1
    rw [List.length_mergeSort, ← sortT_enc, List.length_map] at h2
    rw [h2, List.length_map]
  rw [hl] at hrow
  refine ⟨v, rfl, R_strings ?_, below_box hb⟩
  have he : ((sortT S).map enc).map encStr = ((sortT S).map tB).map Value.string := by
    rw [List.map_map, List.map_map]; rfl
  rw [he] at hrow
  have : (w.alloc (.cells #[.map (some b)] 56)).heap.size = w.heap.size + 1 := by simp
  rwa [this] at hrow

end Go.Proofs.Ytnieihhnchefdaa
