import Derived.Test.YtpgbhgpjfjeomaaEvRef
import Derived.Test.YtpgbhgpjfjeomaaHubT
namespace Go.Proofs.Ytpgbhgpjfjeomaa.Pure
open Go.RowKit Go.Proofs.Ytpgbhgpjfjeomaa Go.Proofs.Ytpgbhgpjfjeomaa.Ref Go.Proofs.Ytpgbhgpjfjeomaa.PA Go.Proofs.YtpgbhgpjfjeomaaW.PrintWords Go.Proofs.YtpgbhgpjfjeomaaW.PrintLast
set_option linter.unusedVariables false

theorem ref6_loop (m : Nat) (s : ByteArray) (n : Int) (hm : n = m) (hn : n ≤ 9223372036854775807) : Ev (fun k => letterlockref6_Back.l0 k s n) (hashesF m s) := by
  induction m generalizing s n with
  | zero => exact Ev.step (fun _ => rfl) (Ev.neg (by omega) (Ev.now _))
  | succ m ih =>
    refine Ev.step (fun _ => rfl) (Ev.pos (by omega) (Ev.bind (refHash_ev s) ?_))
    unfold hashesF
    by_cases h0 : (hashF s).2 = 0
    · rw [if_pos h0]
      refine Ev.pos h0 ?_
      rw [w64 (by omega) (by omega)]
      exact ih _ _ (by omega) (by omega)
    · rw [if_neg h0]
      exact Ev.neg h0 (Ev.now _)
theorem ref6Back_ev (s : ByteArray) (n : Int) (hn : n ≤ 9223372036854775807) : Ev (fun k => letterlockref6_Back.f k s n) (backF s n) := by
  unfold letterlockref6_Back.f backF
  refine Ev.bind (refRight_ev s) ?_
  cases hr : right s with
  | false =>
    rw [if_neg (by simp)]
    exact Ev.neg (by simp) (Ev.step (fun _ => rfl) (Ev.now _))
  | true =>
    rw [if_pos rfl]
    refine Ev.pos rfl ?_
    by_cases h0 : n < 0
    · rw [if_pos h0]
      exact Ev.step (fun _ => rfl) (Ev.pos (decide_eq_true h0) (Ev.now _))
    · rw [if_neg h0]
      exact Ev.step (fun _ => rfl) (Ev.neg (by simpa using h0) (ref6_loop n.toNat s n (by omega) hn))
theorem ref6State_ev (s : ByteArray) (e : Int) : Ev (fun k => letterlockref6_State.f k s e) (stateF s e) := by
  unfold letterlockref6_State.f stateF
  refine Ev.bind (refRight_ev s) ?_
  cases hr : right s with
  | false =>
    rw [if_neg (by simp)]
    exact Ev.neg (by simp) (Ev.now _)
  | true =>
    rw [if_pos rfl]
    refine Ev.pos rfl ?_
    by_cases h0 : e < 0
    · rw [if_pos h0]; exact Ev.pos h0 (Ev.now _)
    rw [if_neg h0]
    refine Ev.neg h0 ?_
    by_cases h1 : 7 < e
    · rw [if_pos h1]; exact Ev.pos (by omega) (Ev.now _)
    rw [if_neg h1]
    refine Ev.neg (by omega) ?_
    rw [w64 (by omega) (by omega)]
    exact Ev.bind (ref6Back_ev s (7 - e) (by omega)) (Ev.now _)
theorem ref6Key_ev (s : ByteArray) : Ev (fun k => letterlockref6_Key.f k s) (keyF s) := by
  unfold letterlockref6_Key.f keyF
  refine Ev.bind (refRight_ev s) ?_
  cases hr : right s with
  | false =>
    rw [if_neg (by simp)]
    exact Ev.neg (by simp) (Ev.now _)
  | true =>
    rw [if_pos rfl]
    refine Ev.pos rfl ?_
    have ht := refText_ev keyB (by decide)
    rw [key_text] at ht
    refine Ev.bind ht (Ev.bind (refPair_ev (textB keyB) s) ?_)
    by_cases h0 : (pairF (textB keyB) s).2 = 0
    · simp only [if_pos h0]
      exact Ev.bind (refHash_ev _) (Ev.now _)
    · simp only [if_neg h0]
      exact Ev.now _

theorem RegressTells : letterlocklaw6_RegressTells.Pure := by
  intro a0 l1 a2 a3 h0 h1 h2 h3 h4 h5
  refine Ev.rounds ?_
  have hw : -9223372036854775808 ≤ a3 ∧ a3 ≤ 9223372036854775807 := by simpa [Lit.wf, IntKind.min, IntKind.max, IntKind.signed, IntKind.bits] using h5
  obtain ⟨t, ht, he⟩ := grown_ev l1 h3
  have hts := right_size ht
  unfold letterlocklaw6_RegressTells.f
  refine Ev.bind shown6_ev (Ev.pos rfl ?_)
  by_cases hs : (a0.size : Int) > 5000
  · exact Ev.step (fun _ => rfl) (Ev.pos (decide_eq_true hs) (Ev.now _))
  refine Ev.step (fun _ => rfl) (Ev.neg (by simpa using hs) (Ev.bind he (Ev.bind (state_ev a0 a2 (by omega)) (Ev.bind (ref6State_ev a0 a2) (Ev.bind (state_ev t a2 (by omega)) (Ev.bind (ref6State_ev t a2) (Ev.pos rfl (Ev.pos rfl (Ev.pos rfl ?_)))))))))
  refine Ev.step (fun _ => rfl) (Ev.neg (by simp) (Ev.bind (back_ev a0 a3 (by omega) hw.2) (Ev.bind (ref6Back_ev a0 a3 hw.2) (Ev.bind (back_ev t a3 (by omega) hw.2) (Ev.bind (ref6Back_ev t a3 hw.2) (Ev.pos rfl (Ev.pos rfl (Ev.pos rfl ?_))))))))
  refine Ev.step (fun _ => rfl) (Ev.neg (by simp) (Ev.bind (key_ev a0 (by omega)) (Ev.bind (ref6Key_ev a0) (Ev.bind (key_ev t (by omega)) (Ev.bind (ref6Key_ev t) (Ev.pos rfl (Ev.pos rfl (Ev.pos rfl (Ev.const ?_)))))))))
  simp

end Go.Proofs.Ytpgbhgpjfjeomaa.Pure
