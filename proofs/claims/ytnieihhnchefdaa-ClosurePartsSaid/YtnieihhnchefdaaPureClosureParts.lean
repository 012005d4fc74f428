/- A pair can be put together just if both parts can; what is sealed, or hashed, if its parts can; who holds a pair has both: the printed law tells true for all rows of numbers. -/
import Derived.Test.YtnieihhnchefdaaEv4
import Derived.Test.YtnieihhnchefdaaHubP
namespace Go.Proofs.Ytnieihhnchefdaa.Pure
open Go.RowKit Go.Proofs.Ytnieihhnchefdaa Go.Proofs.Ytnieihhnchefdaa.Ref Go.Proofs.Ytnieihhnchefdaa.PA Go.Proofs.YtnieihhnchefdaaW.PrintWords Go.Proofs.YtnieihhnchefdaaW.PrintLast
set_option linter.unusedVariables false

theorem seal_val (a b : ByteArray) (ha : a.size ≤ 9223372036854774000) (hb : b.size ≤ 9223372036854774000) : term_Seal.f a b = some (ofF (code2 .s) [a, b]) := by
  unfold term_Seal.f
  rw [of_val _ _ (by rw [size_one]; omega) (by simp) (by simpa using ⟨ha, hb⟩)]
  rfl
theorem parts_end (us : List T) (hu : ∀ t ∈ us, Wf t) (hl : us.length ≤ 6) (a b : T) (ha : Wf a) (hb : Wf b) (hp : Wf (.two .p a b)) (hs : Wf (.two .s a b)) (hh : Wf (.one .h a)) :
    Ev (fun k => letterlocklaw4_ClosureParts.j1 k (us.map tm) (tm a) (tm b) (tm (.two .p a b)) (tm (.two .s a b)) (tm (.one .h a)) false) true := by
  have d1 := derives_tm hu (by omega) ha
  have d2 := derives_tm hu (by omega) hb
  have d3 := derives_tm hu (by omega) hp
  have d4 := derives_tm hu (by omega) hs
  have d5 := derives_tm hu (by omega) hh
  have d6 := derives_more hu hp (by omega) hb
  have e6 : tog (hadL (us ++ [.two .p a b])) b = true :=
    tog_of_mem (hadL_closed _ (.two .p a b) (hadL_sup _ _ (by simp)) b (by simp [gives]))
  rw [e6] at d6
  rw [had_pair] at d3
  have hn : ([] : List ByteArray).length + (us.map tm).length < 8796093022208 := by rw [List.length_map]; simp; omega
  have hn2 : (([] : List ByteArray) ++ us.map tm).length < 8796093022208 := by rw [List.nil_append, List.length_map]; omega
  refine Ev.step (fun _ => rfl) (Ev.put d1 (Ev.put d2 (Ev.put d3 (Ev.put d4 (Ev.put d5 ?_)))))
  cases hx : tog (hadL us) a with
  | true =>
    have e5 : tog (hadL us) (.one .h a) = true := by simp only [tog]; rw [hx, Bool.or_true]
    cases hy : tog (hadL us) b with
    | true =>
      have e4 : tog (hadL us) (.two .s a b) = true := by simp only [tog]; rw [hx, hy]; simp
      rw [e4, e5]
      exact Ev.pos rfl (Ev.neg (by simp) (Ev.pos rfl (Ev.pos rfl (Ev.pos rfl (Ev.put rfl (Ev.pos hn (Ev.put rfl (Ev.pos hn2 (Ev.put d6 (Ev.pos rfl (Ev.now _)))))))))))
    | false =>
      rw [e5]
      exact Ev.pos rfl (Ev.neg (by simp) (Ev.neg (by simp) (Ev.pos rfl (Ev.put rfl (Ev.pos hn (Ev.put rfl (Ev.pos hn2 (Ev.put d6 (Ev.pos rfl (Ev.now _))))))))))
  | false =>
    exact Ev.neg (by simp) (Ev.neg (by simp) (Ev.put rfl (Ev.pos hn (Ev.put rfl (Ev.pos hn2 (Ev.put d6 (Ev.pos rfl (Ev.now _))))))))

theorem ClosureParts (l0 : List (List Int)) (l1 l2 : List Int) (g0 : l0.length ≤ 9223372036854775807 ∧ ∀ x ∈ l0, x.length ≤ 9223372036854775807 ∧ ∀ y ∈ x, (Lit.int .i64 y).wf = true)
    (g1 : l1.length ≤ 9223372036854775807 ∧ ∀ x ∈ l1, (Lit.int .i64 x).wf = true) (g2 : l2.length ≤ 9223372036854775807 ∧ ∀ x ∈ l2, (Lit.int .i64 x).wf = true) : ∃ k, letterlocklaw4_ClosureParts.f k l0 l1 l2 = some true := by
  refine Ev.rounds ?_
  obtain ⟨us, h1, h2, h3⟩ := some4_ev l0 (fun x hx => (g0.2 x hx).2) g0.1
  obtain ⟨_, ⟨a, ha, _, rfl⟩, h4⟩ := grown4_ev l1 g1.2
  obtain ⟨_, ⟨b, hb, _, rfl⟩, h5⟩ := grown4_ev l2 g2.2
  have hu : ∀ t ∈ us, Wf t := fun t ht => (h2 t ht).1
  have sa := tm_size_le ha
  have sb := tm_size_le hb
  unfold letterlocklaw4_ClosureParts.f
  refine Ev.put shown4_val (Ev.pos rfl ?_)
  by_cases h : (l0.length : Int) > 12
  · rw [decide_eq_true h]
    exact Ev.step (fun _ => rfl) (Ev.now _)
  rw [decide_eq_false h]
  refine Ev.step (fun _ => rfl) (Ev.bind h3 (Ev.bind h4 (Ev.bind h5 (Ev.put (pair_val _ _ (by omega) (by omega)) (Ev.put (seal_val _ _ (by omega) (by omega)) (Ev.put (hash_val _ (by omega)) ?_))))))
  have hend : ∀ x8 x9 x10 x11 x13 x15, Ev (fun k => letterlocklaw4_ClosureParts.j1 k x8 x9 x10 x11 x13 x15 true) true := fun _ _ _ _ _ _ => Ev.step (fun _ => rfl) (Ev.now _)
  rcases two_cases .p ha hb (fun e => by simp at e) with ⟨e1, w1⟩ | e1
  · rw [show pairF (tm a) (tm b) = _ from e1]
    refine Ev.pos rfl ?_
    rcases two_cases .s ha hb (fun e => by simp at e) with ⟨e2, w2⟩ | e2
    · rw [e2]
      refine Ev.pos rfl ?_
      rcases one_cases .h ha with ⟨e3, w3⟩ | e3
      · rw [show hashF (tm a) = _ from e3]
        exact parts_end us hu (by omega) a b ha hb w1 w2 w3
      · rw [show hashF (tm a) = _ from e3]
        exact hend _ _ _ _ _ _
    · rw [e2]
      exact Ev.neg (by simp) (hend _ _ _ _ _ _)
  · rw [show pairF (tm a) (tm b) = _ from e1]
    exact Ev.neg (by simp) (hend _ _ _ _ _ _)

end Go.Proofs.Ytnieihhnchefdaa.Pure
