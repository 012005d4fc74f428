import Derived.Test.YtpgbhgpjfjeomaaEvRef
import Derived.Test.YtpgbhgpjfjeomaaEvBase
import Derived.Test.YtpgbhgpjfjeomaaHubE
namespace Go.Proofs.Ytpgbhgpjfjeomaa.Pure
open Go.RowKit Go.Proofs.Ytpgbhgpjfjeomaa Go.Proofs.Ytpgbhgpjfjeomaa.Ref Go.Proofs.Ytpgbhgpjfjeomaa.PA Go.Proofs.YtpgbhgpjfjeomaaW.PrintWords Go.Proofs.YtpgbhgpjfjeomaaW.PrintLast
set_option linter.unusedVariables false

theorem RegressErrs : letterlocklaw6_RegressErrs.Pure := by
  intro l0 a1 a2 a3 h0 h1 h2 h3 h4 h5
  refine Ev.rounds ?_
  have hw : -9223372036854775808 ≤ a3 ∧ a3 ≤ 9223372036854775807 := by simpa [Lit.wf, IntKind.min, IntKind.max, IntKind.signed, IntKind.bits] using h5
  obtain ⟨t, hr, he⟩ := grown_ev l0 h2
  have hts := right_size hr
  unfold letterlocklaw6_RegressErrs.f
  refine Ev.bind shown6_ev (Ev.pos rfl ?_)
  by_cases hs : (a1.size : Int) > 1000
  · exact Ev.step (fun _ => rfl) (Ev.pos (decide_eq_true hs) (Ev.now _))
  refine Ev.step (fun _ => rfl) (Ev.neg (by simpa using hs) (Ev.bind he (Ev.bind (state_ev t a2 (by omega)) (Ev.bind (back_ev t a3 (by omega) hw.2) ?_))))
  have hnil : ((⟨#[]⟩ : ByteArray).toList) = [] := by rw [bytes_toList]; rfl
  -- the string that is no term
  have hend : Ev (fun k => letterlocklaw6_RegressErrs.j2 k a1 a2 a3 false) true := by
    refine Ev.step (fun _ => rfl) (Ev.put (kind_val a1 (by omega)) ?_)
    cases hk : right a1 with
    | true => exact Ev.neg (fun e => by rw [(kindF_zero a1).1 e] at hk; simp at hk) (Ev.now _)
    | false =>
      have e1 : stateF a1 a2 = (⟨#[]⟩, 1) := by unfold stateF; rw [hk, if_neg (by simp)]
      have e2 : backF a1 a3 = (⟨#[]⟩, 1) := by unfold backF; rw [hk, if_neg (by simp)]
      have e3 : keyF a1 = (⟨#[]⟩, 1) := by unfold keyF; rw [hk, if_neg (by simp)]
      have s1 := state_ev a1 a2 (by omega)
      have s2 := back_ev a1 a3 (by omega) hw.2
      have s3 := key_ev a1 (by omega)
      rw [e1] at s1
      rw [e2] at s2
      rw [e3] at s3
      refine Ev.pos ((kindF_zero a1).2 hk) (Ev.bind s1 (Ev.bind s2 (Ev.bind s3 (Ev.pos rfl (Ev.pos rfl (Ev.pos rfl (Ev.pos hnil (Ev.pos hnil (Ev.const ?_)))))))))
      rw [hnil]; rfl
  -- what the state tells
  have hst : ((stateF t a2).2 = 9 ↔ (a2 < 0 ∨ 7 < a2)) ∧ ((stateF t a2).2 ≠ 0 → (stateF t a2).1 = ⟨#[]⟩) ∧ ((stateF t a2).2 = 0 → a2 = 7 → (stateF t a2).1 = t) := by
    unfold stateF
    rw [if_pos hr]
    by_cases c1 : a2 < 0
    · rw [if_pos c1]; exact ⟨⟨fun _ => Or.inl c1, fun _ => rfl⟩, fun _ => rfl, fun h => absurd h (by simp)⟩
    rw [if_neg c1]
    by_cases c2 : 7 < a2
    · rw [if_pos c2]; exact ⟨⟨fun _ => Or.inr c2, fun _ => rfl⟩, fun _ => rfl, fun h => absurd h (by simp)⟩
    rw [if_neg c2]
    obtain ⟨n, hn⟩ := Int.eq_ofNat_of_zero_le (show 0 ≤ 7 - a2 by omega)
    rw [hn, back_right hr]
    rcases hashes_codes n t hr with ⟨d1, d2⟩ | d1
    · refine ⟨⟨fun h => by rw [d1] at h; exact absurd h (by simp), fun h => by omega⟩, fun h => absurd d1 h, fun _ h7 => ?_⟩
      have : n = 0 := by omega
      rw [this]; rfl
    · rw [d1]
      exact ⟨⟨fun h => absurd h (by simp), fun h => by omega⟩, fun h => rfl, fun h => absurd h (by simp)⟩
  have hbk : ((backF t a3).2 = 1 ↔ a3 < 0) ∧ ((backF t a3).2 ≠ 0 → (backF t a3).1 = ⟨#[]⟩) := by
    by_cases c1 : a3 < 0
    · unfold backF
      rw [if_pos hr, if_pos c1]; exact ⟨⟨fun _ => c1, fun _ => rfl⟩, fun _ => rfl⟩
    obtain ⟨n, hn⟩ := Int.eq_ofNat_of_zero_le (show 0 ≤ a3 by omega)
    rw [hn, back_right hr]
    rcases hashes_codes n t hr with ⟨d1, d2⟩ | d1
    · exact ⟨⟨fun h => by rw [d1] at h; exact absurd h (by simp), fun h => by omega⟩, fun h => absurd d1 h⟩
    · rw [d1]
      exact ⟨⟨fun h => absurd h (by simp), fun h => by omega⟩, fun h => rfl⟩
  generalize stateF t a2 = x at hst ⊢
  generalize backF t a3 = y at hbk ⊢
  obtain ⟨s1, s2, s3⟩ := hst
  obtain ⟨b1, b2⟩ := hbk
  have hgo1 : Ev (fun k => letterlocklaw6_RegressErrs.j1 k a1 a2 a3 t x.1 x.2 false) true := by
    refine Ev.step (fun _ => rfl) ?_
    by_cases c1 : x.2 = 0
    · refine Ev.pos c1 ?_
      by_cases c2 : a2 = 7
      · refine Ev.pos c2 ?_
        rw [s3 c1 c2, show (t.toList != t.toList) = false from by simp]
        exact hend
      · exact Ev.neg c2 hend
    · exact Ev.neg c1 hend
  have hb3 : ((decide (a3 < 0)) != (y.2 == 1)) = false := by
    by_cases c : a3 < 0
    · rw [decide_eq_true c, b1.2 c]; rfl
    · rw [decide_eq_false c, beq_eq_false_iff_ne.mpr (fun h => c (b1.1 h))]; rfl
  have hy : ¬ y.2 = 0 → (y.1.toList != ([] : List UInt8)) = false := fun h => by rw [b2 h, hnil]; rfl
  have hx : ¬ x.2 = 0 → x.1.toList = ([] : List UInt8) := fun h => by rw [s2 h, hnil]
  have hfin : Ev (fun k => if x.2 = 0 then (if y.2 = 0 then letterlocklaw6_RegressErrs.j1 k a1 a2 a3 t x.1 x.2 false else letterlocklaw6_RegressErrs.j1 k a1 a2 a3 t x.1 x.2 (y.1.toList != ([] : List UInt8))) else (if x.1.toList = ([] : List UInt8) then (if y.2 = 0 then letterlocklaw6_RegressErrs.j1 k a1 a2 a3 t x.1 x.2 false else letterlocklaw6_RegressErrs.j1 k a1 a2 a3 t x.1 x.2 (y.1.toList != ([] : List UInt8))) else letterlocklaw6_RegressErrs.j1 k a1 a2 a3 t x.1 x.2 true)) true := by
    have hin : Ev (fun k => if y.2 = 0 then letterlocklaw6_RegressErrs.j1 k a1 a2 a3 t x.1 x.2 false else letterlocklaw6_RegressErrs.j1 k a1 a2 a3 t x.1 x.2 (y.1.toList != ([] : List UInt8))) true := by
      by_cases c : y.2 = 0
      · exact Ev.pos c hgo1
      · rw [hy c]; exact Ev.neg c hgo1
    by_cases c : x.2 = 0
    · exact Ev.pos c hin
    · exact Ev.neg c (Ev.pos (hx c) hin)
  by_cases c1 : a2 < 0
  · exact Ev.pos c1 (Ev.neg (by rw [s1.2 (Or.inl c1)]; simp) (Ev.neg (by rw [hb3]; simp) hfin))
  · refine Ev.neg c1 (Ev.neg ?_ (Ev.neg (by rw [hb3]; simp) hfin))
    by_cases c2 : 7 < a2
    · rw [s1.2 (Or.inr c2), decide_eq_true c2]; simp
    · rw [decide_eq_false c2, beq_eq_false_iff_ne.mpr (fun h => by have := s1.1 h; omega)]; simp

end Go.Proofs.Ytpgbhgpjfjeomaa.Pure
