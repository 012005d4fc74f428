/- What is sealed, or boxed, can be told with the key, and not without: the printed law tells true for all rows of numbers. -/
import Derived.Test.YtnieihhnchefdaaEv4K
import Derived.Test.YtnieihhnchefdaaHubYK
namespace Go.Proofs.Ytnieihhnchefdaa.Pure
open Go.RowKit Go.Proofs.Ytnieihhnchefdaa Go.Proofs.Ytnieihhnchefdaa.Ref Go.Proofs.Ytnieihhnchefdaa.PA Go.Proofs.YtnieihhnchefdaaW.PrintWords Go.Proofs.YtnieihhnchefdaaW.PrintLast
set_option linter.unusedVariables false

theorem seal_val (a b : ByteArray) (ha : a.size ≤ 9223372036854774000) (hb : b.size ≤ 9223372036854774000) : term_Seal.f a b = some (ofF (code2 .s) [a, b]) := by
  unfold term_Seal.f
  rw [of_val _ _ (by rw [size_one]; omega) (by simp) (by simpa using ⟨ha, hb⟩)]
  rfl
theorem kind_public {t : T} (h : Wf (.one .u t)) : kindF (tm (.one .u t)) = 117 := by
  unfold kindF
  rw [bytes_tm, termOf_enc h]
  rfl
theorem box_val {t : T} (h : Wf (.one .u t)) (b : ByteArray) (hb : b.size ≤ 9223372036854774000) : term_Box.f (tm (.one .u t)) b = some (ofF (code2 .b) [tm (.one .u t), b]) := by
  have hz := tm_size_le h
  unfold term_Box.f
  rw [kind_val _ (by omega), kind_public h]
  simp only [Option.bind_some]
  rw [if_pos trivial, of_val _ _ (by rw [size_one]; omega) (by simp) (by simpa using ⟨(by omega : (tm (.one .u t)).size ≤ 9223372036854774000), hb⟩)]
  rfl
theorem box_none (b : ByteArray) : term_Box.f (⟨#[]⟩ : ByteArray) b = some (⟨#[]⟩, 1) := by
  unfold term_Box.f
  rw [kind_val _ (by decide), (kindF_zero _).2 empty_wrong]
  simp only [Option.bind_some]
  rw [if_neg (by decide)]

theorem keys_end (l1 : List (List Int)) (g1 : l1.length ≤ 9223372036854775807 ∧ ∀ x ∈ l1, x.length ≤ 9223372036854775807 ∧ ∀ y ∈ x, (Lit.int .i64 y).wf = true) (c key : T) (hc : Wf c) (hk : Wf key) (hl : Low key)
    (hg : ∀ S, gives S c = if tog S key = true then [T.atom 77777] else []) (hca : T.atom 77777 ∈ subT c) (hne : c ≠ .atom 77777) :
    Ev (fun k => letterlocklaw4_ClosureKeys.j1 k l1 (tm key) (tm (.atom 77777)) (tm c) 0) true := by
  obtain ⟨us, h1, h2, h3⟩ := some4_ev l1 (fun x hx => (g1.2 x hx).2) g1.1
  have hu : ∀ t ∈ us, Wf t := fun t ht => (h2 t ht).1
  have hs : ∀ u ∈ us, T.atom 77777 ∉ subT u := fun u hx hm => by have := (h2 u hx).2 _ hm; omega
  have hkn : T.atom 77777 ∉ subT key := fun hm => by have := hl _ hm; omega
  have hwa : Wf (.atom 77777) := ⟨show 77777 < 18446744073709551616 by omega, by have := len_atom 77777 (by omega); omega⟩
  have d1 := derives_tm hu (by omega) hwa
  have d2 := derives_tm hu (by omega) hk
  have d3 := derives_more hu hc (by omega) hwa
  rw [had_none hs] at d1
  rw [had_key hg hca hne hs hkn] at d3
  have d4 : closure_Derives.f ((([] : List ByteArray) ++ us.map tm) ++ [tm c, tm key]) (tm (.atom 77777)) = some (true, 0) := by
    have h := derives_tm (ts := us ++ [c, key]) (t := .atom 77777) (fun u hx => by
      rcases List.mem_append.1 hx with hx | hx
      · exact hu u hx
      · simp only [List.mem_cons, List.not_mem_nil, or_false] at hx
        rcases hx with rfl | rfl
        · exact hc
        · exact hk) (by simp; omega) hwa
    have e : tog (hadL (us ++ [c, key])) (.atom 77777) = true := by
      refine tog_of_mem (hadL_closed _ c (hadL_sup _ _ (by simp)) _ ?_)
      rw [hg, if_pos (tog_of_mem (hadL_sup _ _ (by simp)))]
      simp
    rw [e] at h
    simpa using h
  have hn : ([] : List ByteArray).length + (us.map tm).length < 8796093022208 := by rw [List.length_map]; simp; omega
  have hn2 : (([] : List ByteArray) ++ us.map tm).length < 8796093022208 := by rw [List.nil_append, List.length_map]; omega
  have hn3 : (([] : List ByteArray) ++ us.map tm).length + [tm c, tm key].length < 8796093022208 := by rw [List.nil_append, List.length_map]; simp; omega
  refine Ev.step (fun _ => rfl) (Ev.bind h3 (Ev.put d1 (Ev.put d2 (Ev.put rfl (Ev.pos hn (Ev.put rfl (Ev.pos hn2 (Ev.put d3 (Ev.put rfl (Ev.pos hn (Ev.put rfl (Ev.put rfl (Ev.pos hn3 (Ev.put d4 (Ev.pos rfl (Ev.pos rfl (Ev.pos rfl (Ev.pos rfl (Ev.neg (by simp) (Ev.pos rfl (ev_cast (Ev.now _) (by simp))))))))))))))))))))))

theorem ClosureKeys (l0 : List Int) (l1 : List (List Int)) (a2 : Bool) (g0 : l0.length ≤ 9223372036854775807 ∧ ∀ x ∈ l0, (Lit.int .i64 x).wf = true)
    (g1 : l1.length ≤ 9223372036854775807 ∧ ∀ x ∈ l1, x.length ≤ 9223372036854775807 ∧ ∀ y ∈ x, (Lit.int .i64 y).wf = true) : ∃ k, letterlocklaw4_ClosureKeys.f k l0 l1 a2 = some true := by
  refine Ev.rounds ?_
  obtain ⟨_, ⟨key, hk, hl, rfl⟩, h4⟩ := grown4_ev l0 g0.2
  have sk := tm_size_le hk
  have hwa : Wf (.atom 77777) := ⟨show 77777 < 18446744073709551616 by omega, by have := len_atom 77777 (by omega); omega⟩
  have sa := tm_size_le hwa
  have hat : Ev (fun k => term_OfAtom.f k 77777) (tm (.atom 77777)) := by
    have h := wirePut_ev 77777 (by omega)
    have hz := size_numB (n := 77777) (by omega)
    rw [← atomB_tm]
    unfold term_OfAtom.f
    exact Ev.bind h (Ev.pos (show 1 + (numB 77777).size ≤ _ by omega) (Ev.now _))
  have hbad : ∀ (x8 x9 x10 : ByteArray), Ev (fun k => letterlocklaw4_ClosureKeys.j1 k l1 x8 x9 x10 10) true := fun _ _ _ => Ev.step (fun _ => rfl) (Ev.now _)
  have hbad1 : ∀ (x8 x9 x10 : ByteArray), Ev (fun k => letterlocklaw4_ClosureKeys.j1 k l1 x8 x9 x10 1) true := fun _ _ _ => Ev.step (fun _ => rfl) (Ev.now _)
  unfold letterlocklaw4_ClosureKeys.f
  refine Ev.put shown4_val (Ev.pos rfl ?_)
  by_cases h : (l1.length : Int) > 20
  · rw [decide_eq_true h]
    exact Ev.step (fun _ => rfl) (Ev.now _)
  rw [decide_eq_false h]
  refine Ev.step (fun _ => rfl) (Ev.bind h4 (Ev.bind hat (Ev.put (seal_val _ _ (by omega) (by omega)) ?_)))
  cases a2 with
  | false =>
    refine Ev.neg (by simp) ?_
    rcases two_cases .s hk hwa (fun e => by simp at e) with ⟨e1, w1⟩ | e1
    · rw [e1]
      exact keys_end l1 g1 _ key w1 hk hl (fun S => rfl) (by simp [subT]) (by simp)
    · rw [e1]; exact hbad _ _ _
  | true =>
    refine Ev.pos rfl (Ev.put (public_val _ (by omega)) ?_)
    rcases one_cases .u hk with ⟨e1, w1⟩ | e1
    · rw [e1]
      refine Ev.put (box_val w1 _ (by omega)) ?_
      rcases two_cases .b w1 hwa (fun _ => rfl) with ⟨e2, w2⟩ | e2
      · rw [e2]
        exact keys_end l1 g1 _ key w2 hk hl (fun S => rfl) (by simp [subT]) (by simp)
      · rw [e2]; exact hbad _ _ _
    · rw [e1]
      exact Ev.put (box_none _) (hbad1 _ _ _)

end Go.Proofs.Ytnieihhnchefdaa.Pure
