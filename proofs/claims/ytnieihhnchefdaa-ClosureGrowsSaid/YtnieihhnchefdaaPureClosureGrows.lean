/- What can be put together is put together of more, too; what is had is had again of all that is had; what can be put together, and is held, too, makes nothing more: the printed law tells true for all rows of numbers. -/
import Derived.Test.YtnieihhnchefdaaEv4
import Derived.Test.YtnieihhnchefdaaHubW
namespace Go.Proofs.Ytnieihhnchefdaa.Pure
open Go.RowKit Go.Proofs.Ytnieihhnchefdaa Go.Proofs.Ytnieihhnchefdaa.Ref Go.Proofs.Ytnieihhnchefdaa.PA Go.Proofs.YtnieihhnchefdaaW.PrintWords Go.Proofs.YtnieihhnchefdaaW.PrintLast
set_option linter.unusedVariables false

theorem sortT_pair (S : List T) : (sortT S).Pairwise fun x y => enc x ≤ enc y := by
  have := List.pairwise_mergeSort (le := fun x y : T => decide (enc x ≤ enc y)) (fun a b c h1 h2 => decide_eq_true (List.le_trans (of_decide_eq_true h1) (of_decide_eq_true h2))) (fun a b => by
    rcases List.le_total (enc a) (enc b) with h | h <;> simp [h]) S
  exact this.imp (fun h => of_decide_eq_true h)
theorem sortT_nodup {S : List T} (h : S.Nodup) : (sortT S).Nodup := (List.mergeSort_perm S _).nodup_iff.2 h
theorem sortT_next {S : List T} (hn : S.Nodup) (hw : ∀ t ∈ S, Wf t) (i : Nat) (h : i + 1 < (sortT S).length) : Op.bytesLess (enc (sortT S)[i]) (enc (sortT S)[i + 1]) = true := by
  rw [less_lt]
  refine decide_eq_true ?_
  have h1 := List.pairwise_iff_getElem.1 (sortT_pair S) i (i + 1) (by omega) h (by omega)
  have h2 := List.pairwise_iff_getElem.1 (sortT_nodup hn) i (i + 1) (by omega) h (by omega)
  refine List.not_le.1 fun h3 => h2 ?_
  exact enc_inj (hw _ ((mem_sortT S _).1 (List.getElem_mem _))).1 (hw _ ((mem_sortT S _).1 (List.getElem_mem _))).1 (List.le_antisymm h1 h3)
theorem rd_tm (us : List T) (i : Nat) (h : i < us.length) : rdOf ByteArray.empty (us.map tm) (i : Int) = tm us[i] := by
  unfold rdOf
  rw [Int.toNat_natCast, List.getD_eq_getElem?_getD, List.getElem?_map, List.getElem?_eq_getElem h]
  rfl
theorem LT_tm (S : List T) : LT S = (sortT S).map tm := rfl

theorem grows_loop (us : List T) (hu : ∀ t ∈ us, Wf t) (hl : us.length ≤ 6) (m i : Nat) (hm : i + m = (sortT (hadL us)).length) :
    Ev (fun k => letterlocklaw4_ClosureGrows.l0 k (us.map tm) ((sortT (hadL us)).map tm) (i : Int)) true := by
  have hf := had_few hu (by omega)
  have hlen := len_sortT (hadL us)
  have hwS := wf_had hu
  induction m generalizing i with
  | zero => exact Ev.step (fun _ => rfl) (Ev.neg (by rw [List.length_map]; omega) (Ev.now _))
  | succ m ih =>
    have hi : i < (sortT (hadL us)).length := by omega
    have hmem := (mem_sortT (hadL us) _).1 (List.getElem_mem hi)
    have d := derives_tm hu (by omega) (hwS _ hmem)
    rw [tog_of_mem hmem, ← rd_tm _ i hi] at d
    have hnext : Ev (fun k => letterlocklaw4_ClosureGrows.l0 k (us.map tm) ((sortT (hadL us)).map tm) (wrap64 ((i : Int) + 1))) true := by
      rw [w64 (by omega) (by omega)]
      exact ih (i + 1) (by omega)
    refine Ev.step (fun _ => rfl) (Ev.pos (by rw [List.length_map]; omega) (Ev.pos (by omega) (Ev.put d (Ev.pos rfl (Ev.pos rfl ?_)))))
    by_cases h0 : (i : Int) > 0
    · obtain ⟨j, rfl⟩ : ∃ j, i = j + 1 := ⟨i - 1, by omega⟩
      have e1 : wrap64 (((j + 1 : Nat) : Int) - 1) = (j : Int) := by rw [w64 (by omega) (by omega)]; omega
      refine Ev.pos h0 ?_
      rw [e1, rd_tm (sortT (hadL us)) j (by omega), rd_tm (sortT (hadL us)) (j + 1) hi, tm_list, tm_list]
      exact Ev.pos (by omega) (Ev.pos (by rw [List.length_map]; omega) (Ev.pos (sortT_next (hadL_nodup us) hwS j hi) hnext))
    · exact Ev.neg h0 hnext

theorem grows_end (us : List T) (hu : ∀ t ∈ us, Wf t) (hl : us.length ≤ 6) : Ev (fun k => letterlocklaw4_ClosureGrows.j1 k (us.map tm) false) true := by
  have hf := had_few hu (by omega)
  have hlen := len_sortT (hadL us)
  have hwS := wf_had hu
  have hws : ∀ t ∈ sortT (hadL us), Wf t := fun t ht => hwS t ((mem_sortT _ t).1 ht)
  have d1 := apart_tm hu (by omega)
  rw [LT_tm] at d1
  have hgo : Ev (fun k => letterlocklaw4_ClosureGrows.j2 k (us.map tm) ((sortT (hadL us)).map tm) false) true :=
    Ev.step (fun _ => rfl) (grows_loop us hu hl (sortT (hadL us)).length 0 (by omega))
  refine Ev.step (fun _ => rfl) (Ev.put d1 ?_)
  by_cases h : (sortT (hadL us)).length ≤ 200
  · have d2 := apart_tm hws h
    have hm : ∀ x, x ∈ hadL (sortT (hadL us)) ↔ x ∈ hadL us := fun x => (had_congr (fun y => mem_sortT _ y) x).trans (had_idem us x)
    rw [LT_congr (hadL_nodup _) (hadL_nodup us) hm, LT_tm] at d2
    exact Ev.put d2 (Ev.pos rfl (Ev.pos rfl (Ev.bind (same4_ev _ (by rw [List.length_map]; omega)) hgo)))
  · obtain ⟨d2, _⟩ := big_tm hws (by omega) (by omega)
    exact Ev.put d2 (Ev.pos rfl (Ev.neg (by simp) (Ev.neg (by rw [List.length_map]; omega) hgo)))

theorem ClosureGrows (l0 : List (List Int)) (l1 l2 l3 : List Int) (g0 : l0.length ≤ 9223372036854775807 ∧ ∀ x ∈ l0, x.length ≤ 9223372036854775807 ∧ ∀ y ∈ x, (Lit.int .i64 y).wf = true)
    (g1 : l1.length ≤ 9223372036854775807 ∧ ∀ x ∈ l1, (Lit.int .i64 x).wf = true) (g2 : l2.length ≤ 9223372036854775807 ∧ ∀ x ∈ l2, (Lit.int .i64 x).wf = true) (g3 : l3.length ≤ 9223372036854775807 ∧ ∀ x ∈ l3, (Lit.int .i64 x).wf = true) :
    ∃ k, letterlocklaw4_ClosureGrows.f k l0 l1 l2 l3 = some true := by
  refine Ev.rounds ?_
  obtain ⟨us, h1, h2, h3⟩ := some4_ev l0 (fun x hx => (g0.2 x hx).2) g0.1
  obtain ⟨_, ⟨m, hm, _, rfl⟩, h4⟩ := grown4_ev l1 g1.2
  obtain ⟨_, ⟨x, hx, _, rfl⟩, h5⟩ := grown4_ev l2 g2.2
  obtain ⟨_, ⟨y, hy, _, rfl⟩, h6⟩ := grown4_ev l3 g3.2
  have hu : ∀ t ∈ us, Wf t := fun t ht => (h2 t ht).1
  have hl : us.length ≤ 6 := by omega
  have d1 := derives_tm hu (by omega) hx
  have d2 := derives_more hu hm (by omega) hx
  have d3 := derives_tm hu (by omega) hy
  have d4 := derives_more hu hx (by omega) hy
  have hn : ([] : List ByteArray).length + (us.map tm).length < 8796093022208 := by rw [List.length_map]; simp; omega
  have hn2 : (([] : List ByteArray) ++ us.map tm).length < 8796093022208 := by rw [List.nil_append, List.length_map]; omega
  unfold letterlocklaw4_ClosureGrows.f
  refine Ev.put shown4_val (Ev.pos rfl ?_)
  by_cases h : (l0.length : Int) > 20
  · rw [decide_eq_true h]
    exact Ev.step (fun _ => rfl) (Ev.now _)
  rw [decide_eq_false h]
  refine Ev.step (fun _ => rfl) (Ev.bind h3 (Ev.bind h5 (Ev.bind h6 (Ev.put d1 (Ev.put rfl (Ev.pos hn (Ev.put rfl (Ev.bind h4 (Ev.pos hn2 (Ev.put d2 (Ev.put d3 (Ev.put rfl (Ev.pos hn (Ev.put rfl (Ev.pos hn2 (Ev.put d4 (Ev.pos rfl (Ev.pos rfl (Ev.pos rfl (Ev.pos rfl ?_))))))))))))))))))))
  cases ha : tog (hadL us) x with
  | false => exact Ev.neg (by simp) (grows_end us hu hl)
  | true =>
    have e2 : tog (hadL (us ++ [m])) x = true := tog_had_mono (fun z hz => List.mem_append.2 (Or.inl hz)) x ha
    rw [e2, had_cut ha y]
    refine Ev.pos rfl (Ev.pos rfl ?_)
    rw [show ((tog (hadL us) y, (0 : Int)).1 != (tog (hadL us) y, (0 : Int)).1) = false by cases tog (hadL us) y <;> rfl]
    exact grows_end us hu hl

end Go.Proofs.Ytnieihhnchefdaa.Pure
