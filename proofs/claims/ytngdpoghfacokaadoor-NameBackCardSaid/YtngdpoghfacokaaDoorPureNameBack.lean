/- What is made of runes has those runes, and what has runes is made of them again; what is folded is so, and folded again the same: the printed law tells true for any text and any numbers. -/
import Derived.Test.YtngdpoghfacokaaDoorEvName2
import Derived.Test.YtngdpoghfacokaaDoorPAx10
namespace Go.Proofs.YtngdpoghfacokaaDoor.Pure
open Go.RowKit Go.Proofs.YtngdpoghfacokaaDoor Go.Proofs.YtngdpoghfacokaaDoor.Ref Go.Proofs.YtngdpoghfacokaaDoor.PA Go.Proofs.YtngdpoghfacokaaDoorW.PrintWords Go.Proofs.YtngdpoghfacokaaDoorW.PrintLast
set_option linter.unusedVariables false

theorem back_end (s : ByteArray) (hs : s.size ≤ 2000) (x6 : List Int) (x7 : Int) (h7 : x7 = 0 ∨ x7 = 2 ∧ x6 = []) (x10 : ByteArray) : Ev (fun k => letterlocklaw1_NameBack.j2 k s x6 x7 x10 0 false) true := by
  have e1 := fold_val s (by omega)
  have e2 := runes_val (foldF s) (by rw [size_foldF]; omega)
  rw [runesF_valid (by rw [bytes_foldF]; exact (fold_valid _).1)] at e2
  have e3 := fold_val (foldF s) (by rw [size_foldF]; omega)
  have e4 : foldF (foldF s) = foldF s := bs_inj (by rw [bytes_foldF, bytes_foldF, fold_idem])
  rw [e4] at e3
  refine Ev.step (fun _ => rfl) (Ev.put e1 (Ev.put e2 (Ev.pos rfl (Ev.put e3 (Ev.pos rfl ?_)))))
  rcases h7 with rfl | ⟨rfl, rfl⟩
  · exact Ev.pos rfl (Ev.pos rfl (Ev.now _))
  · exact Ev.neg (by simp) (Ev.pos rfl (Ev.pos rfl (Ev.pos rfl (Ev.now _))))
theorem back_mid (s : ByteArray) (hs : s.size ≤ 2000) (l : List Int) (hl : l.length ≤ 500) (x6 : List Int) (x7 : Int) (h7 : x7 = 0 ∨ x7 = 2 ∧ x6 = []) : Ev (fun k => letterlocklaw1_NameBack.j1 k s l x6 x7) true := by
  have hm := make_val l (by omega)
  rcases makeF_cases l with ⟨hv, h1⟩ | h1
  · rw [h1] at hm
    have hz := makeD_len l
    have hr := runes_val (ofBytes (makeD l)) (by rw [size_ofBytes]; omega)
    obtain ⟨g1, g2⟩ := runes_of_make hv
    rw [runesF_valid (by rw [bytes_ofBytes]; exact g2), bytes_ofBytes, g1] at hr
    exact Ev.step (fun _ => rfl) (Ev.put hm (Ev.pos rfl (Ev.put hr (Ev.pos rfl (Ev.bind (same_ev l (by omega)) (back_end s hs x6 x7 h7 _))))))
  · rw [h1] at hm
    have e1 := fold_val s (by omega)
    have e2 := runes_val (foldF s) (by rw [size_foldF]; omega)
    rw [runesF_valid (by rw [bytes_foldF]; exact (fold_valid _).1)] at e2
    have e3 := fold_val (foldF s) (by rw [size_foldF]; omega)
    have e4 : foldF (foldF s) = foldF s := bs_inj (by rw [bytes_foldF, bytes_foldF, fold_idem])
    rw [e4] at e3
    refine Ev.step (fun _ => rfl) (Ev.put hm (Ev.neg (by simp) (Ev.put e1 (Ev.put e2 (Ev.pos rfl (Ev.put e3 (Ev.pos rfl ?_)))))))
    rcases h7 with rfl | ⟨rfl, rfl⟩
    · exact Ev.pos rfl (Ev.pos rfl (ev_cast (Ev.now _) (by rw [bytes_toList]; rfl)))
    · exact Ev.neg (by simp) (Ev.pos rfl (Ev.pos rfl (Ev.pos rfl (ev_cast (Ev.now _) (by rw [bytes_toList]; rfl)))))

theorem NameBack (a0 : ByteArray) (l1 : List Int) (h0 : a0.size ≤ 140737488351232) (g1 : l1.length ≤ 9223372036854775807 ∧ ∀ x ∈ l1, (Lit.int .i32 x).wf = true) : ∃ k, letterlocklaw1_NameBack.f k a0 l1 = some true := by
  refine Ev.rounds ?_
  unfold letterlocklaw1_NameBack.f
  refine Ev.put shown1_val (Ev.pos rfl ?_)
  by_cases h : (a0.size : Int) > 2000
  · exact Ev.pos h (Ev.step (fun _ => rfl) (Ev.now _))
  refine Ev.neg h ?_
  by_cases h2 : (l1.length : Int) > 500
  · rw [decide_eq_true h2]
    exact Ev.step (fun _ => rfl) (Ev.now _)
  rw [decide_eq_false h2]
  have hr := runes_val a0 (by omega)
  cases hv : Lib.validD (bytes a0) with
  | true =>
    rw [runesF_valid hv] at hr
    have hlen := runesD_len (bytes a0)
    rw [bytes_length] at hlen
    obtain ⟨m1, m2⟩ := make_runes hv
    have hm := make_val (runesD (bytes a0)) (by omega)
    rw [makeF_valid m2, m1, ofBytes_bytes] at hm
    exact Ev.step (fun _ => rfl) (Ev.put hr (Ev.pos rfl (Ev.put hm (Ev.pos rfl (Ev.pos rfl (back_mid a0 (by omega) l1 (by omega) _ 0 (Or.inl rfl)))))))
  | false =>
    rw [runesF_bad hv] at hr
    exact Ev.step (fun _ => rfl) (Ev.put hr (Ev.neg (by simp) (back_mid a0 (by omega) l1 (by omega) [] 2 (Or.inr ⟨rfl, rfl⟩))))

end Go.Proofs.YtngdpoghfacokaaDoor.Pure
