/- The code and the reference tell the same of any rows of texts, and of all rows of terms: the printed law tells true. -/
import Derived.Test.YtnieihhnchefdaaEvRef4T
namespace Go.Proofs.Ytnieihhnchefdaa.Pure
open Go.RowKit Go.Proofs.Ytnieihhnchefdaa Go.Proofs.Ytnieihhnchefdaa.Ref Go.Proofs.Ytnieihhnchefdaa.PA Go.Proofs.YtnieihhnchefdaaW.PrintWords Go.Proofs.YtnieihhnchefdaaW.PrintLast
set_option linter.unusedVariables false

theorem few4_loop (l : List ByteArray) (hl : l.length ≤ 9223372036854775807) (m i : Nat) (hm : i + m = l.length) : ∀ n : Int, ∃ b, Ev (fun k => letterlocklaw4_few.l0 k l n (i : Int)) b ∧ (b = true → l.length ≤ 250 ∧ ∀ s ∈ l.drop i, s.size ≤ 1000) := by
  induction m generalizing i with
  | zero =>
    intro n
    rw [List.drop_eq_nil_of_le (by omega)]
    by_cases h : (l.length : Int) ≤ 250
    · exact ⟨_, Ev.step (fun _ => rfl) (Ev.neg (by omega) (Ev.pos h (Ev.now _))), fun _ => ⟨by omega, by simp⟩⟩
    · exact ⟨_, Ev.step (fun _ => rfl) (Ev.neg (by omega) (Ev.neg h (Ev.now _))), fun e => absurd e (by simp)⟩
  | succ m ih =>
    intro n
    have hi : i < l.length := by omega
    have hg := rdOf_at ByteArray.empty l i hi
    rw [List.drop_eq_getElem_cons hi]
    by_cases h : (l[i].size : Int) > 1000
    · exact ⟨_, Ev.step (fun _ => rfl) (Ev.pos (by omega) (Ev.pos (by omega) (Ev.pos (by rw [hg]; exact h) (Ev.now _)))), fun e => absurd e (by simp)⟩
    · obtain ⟨b, hb, hf⟩ := ih (i + 1) (by omega) (wrap64 (n + (l[i].size : Int)))
      refine ⟨b, Ev.step (fun _ => rfl) (Ev.pos (by omega) (Ev.pos (by omega) (Ev.neg (by rw [hg]; exact h) ?_))), fun e => ⟨(hf e).1, fun s hs => ?_⟩⟩
      · rw [hg, w64 (n := (i : Int) + 1) (by omega) (by omega)]
        exact hb
      · rcases List.mem_cons.1 hs with rfl | hs
        · omega
        · exact (hf e).2 s hs
theorem apartF_len {l : List ByteArray} : (apartF l).1.length ≤ 9223372036854775807 := by
  unfold apartF
  cases hr : l.all right with
  | false => rw [if_neg (by simp : ¬ (false = true))]; simp
  | true =>
    rw [if_pos (rfl : true = true)]
    by_cases h2 : 200 < l.length
    · rw [if_pos h2]; simp
    · rw [if_neg h2]
      obtain ⟨ts, rfl, hw⟩ := terms_of hr
      rw [List.length_map] at h2
      have := had_few hw (by omega)
      rw [termsOf_tm hw]
      show (LT (hadL ts)).length ≤ _
      rw [LT_len]; omega
theorem ClosureTells (l0 : List ByteArray) (l1 : List (List Int)) (a2 : ByteArray) (l3 : List Int) (g0 : l0.length ≤ 9223372036854775807 ∧ ∀ x ∈ l0, x.size ≤ 9223372036854775807)
    (g1 : l1.length ≤ 9223372036854775807 ∧ ∀ x ∈ l1, x.length ≤ 9223372036854775807 ∧ ∀ y ∈ x, (Lit.int .i64 y).wf = true) (h2 : a2.size ≤ 140737488351232) (g3 : l3.length ≤ 9223372036854775807 ∧ ∀ x ∈ l3, (Lit.int .i64 x).wf = true) :
    ∃ k, letterlocklaw4_ClosureTells.f k l0 l1 a2 l3 = some true := by
  refine Ev.rounds ?_
  obtain ⟨us, u1, u2, u3⟩ := some4_ev l1 (fun x hx => (g1.2 x hx).2) g1.1
  obtain ⟨_, ⟨t, ht, _, rfl⟩, t4⟩ := grown4_ev l3 g3.2
  obtain ⟨b, hb, hf⟩ := few4_loop l0 g0.1 l0.length 0 (by omega) 0
  rw [List.drop_zero] at hf
  unfold letterlocklaw4_ClosureTells.f
  refine Ev.put shown4_val (Ev.bind hb (Ev.pos rfl ?_))
  cases b with
  | false => exact Ev.neg (by simp) (Ev.step (fun _ => rfl) (Ev.now _))
  | true =>
    obtain ⟨f1, f2⟩ := hf rfl
    refine Ev.pos rfl ?_
    by_cases c1 : (a2.size : Int) > 1000
    · exact Ev.pos c1 (Ev.step (fun _ => rfl) (Ev.now _))
    refine Ev.neg c1 ?_
    by_cases c2 : (l1.length : Int) > 20
    · rw [decide_eq_true c2]
      exact Ev.step (fun _ => rfl) (Ev.now _)
    rw [decide_eq_false c2]
    have small : ∀ s ∈ us.map tm, s.size ≤ 9223372036854774000 := fun s hs => by
      obtain ⟨u, hu, rfl⟩ := List.mem_map.1 hs
      have := tm_size_le (u2 u hu).1; omega
    have v0 : closure_Apart.f l0 = some (apartF l0) := by
      unfold closure_Apart.f
      rw [if_pos ⟨by omega, List.all_eq_true.2 fun s hs => decide_eq_true (by have := f2 s hs; omega)⟩]
    have v1 : closure_Apart.f (us.map tm) = some (apartF (us.map tm)) := by
      unfold closure_Apart.f
      rw [if_pos ⟨by rw [List.length_map]; omega, List.all_eq_true.2 fun s hs => decide_eq_true (small s hs)⟩]
    have d0 : closure_Derives.f l0 a2 = some (derivesF l0 a2) := by
      unfold closure_Derives.f
      rw [if_pos ⟨by omega, List.all_eq_true.2 fun s hs => decide_eq_true (by have := f2 s hs; omega), by omega⟩]
    have d1 : closure_Derives.f (us.map tm) (tm t) = some (derivesF (us.map tm) (tm t)) := by
      unfold closure_Derives.f
      rw [if_pos ⟨by rw [List.length_map]; omega, List.all_eq_true.2 fun s hs => decide_eq_true (small s hs), by have := tm_size_le ht; omega⟩]
    have hus : (us.map tm).length ≤ 1000000 := by rw [List.length_map]; omega
    refine Ev.step (fun k => by simp only [letterlocklaw4_ClosureTells.j0, Bool.false_eq_true, if_false]; rfl) ?_
    refine Ev.bind u3 (Ev.bind t4 (Ev.put v0 (Ev.bind (apart4_ev l0 (by omega)) (Ev.bind (same4_ev _ apartF_len) (Ev.pos rfl ?_)))))
    rw [show ((apartF l0).2 != (apartF l0).2) = false from bne_self_eq_false _]
    refine Ev.step (fun k => by simp only [letterlocklaw4_ClosureTells.j1, Bool.false_eq_true, if_false]; rfl) ?_
    refine Ev.put v1 (Ev.bind (apart4_ev _ hus) (Ev.bind (same4_ev _ apartF_len) (Ev.pos rfl ?_)))
    rw [show ((apartF (us.map tm)).2 != (apartF (us.map tm)).2) = false from bne_self_eq_false _]
    refine Ev.step (fun k => by simp only [letterlocklaw4_ClosureTells.j2, Bool.false_eq_true, if_false]; rfl) ?_
    exact Ev.put d0 (Ev.bind (derives4_ev l0 a2 (by omega)) (Ev.put d1 (Ev.bind (derives4_ev _ (tm t) hus) (Ev.pos (beq_self_eq_true _) (Ev.pos rfl (Ev.pos (beq_self_eq_true _) (ev_cast (Ev.now _) (beq_self_eq_true _))))))))

end Go.Proofs.Ytnieihhnchefdaa.Pure
