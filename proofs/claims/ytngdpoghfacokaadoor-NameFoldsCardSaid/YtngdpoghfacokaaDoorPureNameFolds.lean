/- Folded, a text has as many bytes, and runes, each the same, or greater by 32: the printed law tells true for all numbers and any text. -/
import Derived.Test.YtngdpoghfacokaaDoorEvName2
import Derived.Test.YtngdpoghfacokaaDoorPAx9
namespace Go.Proofs.YtngdpoghfacokaaDoor.Pure
open Go.RowKit Go.Proofs.YtngdpoghfacokaaDoor Go.Proofs.YtngdpoghfacokaaDoor.Ref Go.Proofs.YtngdpoghfacokaaDoor.PA Go.Proofs.YtngdpoghfacokaaDoorW.PrintWords Go.Proofs.YtngdpoghfacokaaDoorW.PrintLast
set_option linter.unusedVariables false

theorem folds_loop (l : List Int) (hl : l.length ≤ 300) (hv : ∀ r ∈ l, ValidR r) (m i : Nat) (hm : i + m = l.length) : Ev (fun k => letterlocklaw1_NameFolds.l0 k l (l.map foldR) (i : Int)) true := by
  induction m generalizing i with
  | zero => exact Ev.step (fun _ => rfl) (Ev.neg (by omega) (Ev.now _))
  | succ m ih =>
    have hi : i < l.length := by omega
    have ih := ih (i + 1) (by omega)
    have h1 := rd_get l i hi
    have h2 := rd_get (l.map foldR) i (by rw [List.length_map]; exact hi)
    rw [List.getElem_map] at h2
    have hr := hv _ (List.getElem_mem hi)
    refine Ev.step (fun _ => rfl) (Ev.pos (by omega) (Ev.pos (by omega) (Ev.pos (by rw [List.length_map]; omega) ?_)))
    rw [h1, h2, w64 (n := (i : Int) + 1) (by omega) (by omega)]
    generalize l[i] = r at hr
    by_cases hg : greatZ r = true
    · have hf : foldR r = r + 32 := by unfold foldR; rw [if_pos hg]
      rw [hf, w32 (n := r + 32) (by unfold ValidR at hr; omega) (by unfold ValidR at hr; omega)]
      exact Ev.neg (by omega) (Ev.pos rfl ih)
    · have hf : foldR r = r := by unfold foldR; rw [if_neg hg]
      rw [hf]
      exact Ev.pos rfl ih

theorem NameFolds (l0 : List Int) (a1 : ByteArray) (g0 : l0.length ≤ 9223372036854775807 ∧ ∀ x ∈ l0, (Lit.int .i32 x).wf = true) (h1 : a1.size ≤ 140737488351232) : ∃ k, letterlocklaw1_NameFolds.f k l0 a1 = some true := by
  refine Ev.rounds ?_
  unfold letterlocklaw1_NameFolds.f
  refine Ev.put shown1_val (Ev.pos rfl ?_)
  by_cases c1 : (l0.length : Int) > 300
  · exact Ev.pos c1 (Ev.step (fun _ => rfl) (Ev.now _))
  refine Ev.neg c1 ?_
  by_cases c2 : (a1.size : Int) > 1000
  · rw [decide_eq_true c2]
    exact Ev.step (fun _ => rfl) (Ev.now _)
  rw [decide_eq_false c2]
  have hm := make_val l0 (by omega)
  rcases makeF_cases l0 with ⟨hv, e1⟩ | e1
  · rw [e1] at hm
    have hz := makeD_len l0
    have hsz : (ofBytes (makeD l0)).size ≤ 1200 := by rw [size_ofBytes]; omega
    have hb : bytes (ofBytes (makeD l0)) = makeD l0 := bytes_ofBytes _
    have hfr : foldRs (makeD l0) = l0.map foldR := by
      have := foldRs_make hv []
      rwa [List.append_nil, foldRs_nil, List.append_nil] at this
    have hvd := (runes_of_make hv).2
    generalize ofBytes (makeD l0) = t at hm hsz hb
    have f1 := fold_val t (by omega)
    have f2 := fold_val a1 (by omega)
    have f3 := fold_val (t ++ a1) (by rw [ByteArray.size_append]; omega)
    have hr := runes_val (foldF t) (by rw [size_foldF]; omega)
    rw [runesF_valid (by rw [bytes_foldF]; exact (fold_valid _).1), bytes_foldF, (fold_valid _).2, hb, hfr] at hr
    have hap : foldF (t ++ a1) = foldF t ++ foldF a1 := bs_inj (by
      rw [bytes_foldF, bytes_append, bytes_append, bytes_foldF, bytes_foldF]
      exact (fold_append _ (by rw [hb]; exact hvd)).1)
    have s1 := size_foldF t
    have s2 := size_foldF a1
    refine Ev.step (fun _ => rfl) (Ev.put hm (Ev.pos rfl (Ev.put f1 (Ev.put hr (Ev.pos rfl (Ev.pos (by show ((foldF t).size : Int) = (t.size : Int); omega) (Ev.pos (by show ((l0.map foldR).length : Int) = (l0.length : Int); rw [List.length_map]) (Ev.put f2 (Ev.pos (by omega) (Ev.pos (show t.size + a1.size ≤ 9223372036854775807 by omega) (Ev.put f3 (Ev.put f2 (Ev.pos (by omega) ?_)))))))))))))
    rw [hap]
    show Ev (fun k => letterlocklaw1_NameFolds.j1 k l0 (l0.map foldR) ((foldF t ++ foldF a1).toList != (foldF t ++ foldF a1).toList)) true
    rw [show ((foldF t ++ foldF a1).toList != (foldF t ++ foldF a1).toList) = false by simp]
    exact Ev.step (fun _ => rfl) (folds_loop l0 (by omega) hv l0.length 0 (by omega))
  · rw [e1] at hm
    exact Ev.step (fun _ => rfl) (Ev.put hm (Ev.neg (by simp) (ev_cast (Ev.now _) (by rw [bytes_toList]; rfl))))

end Go.Proofs.YtngdpoghfacokaaDoor.Pure
