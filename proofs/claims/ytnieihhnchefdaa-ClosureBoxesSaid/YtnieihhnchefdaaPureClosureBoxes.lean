/- What is boxed for one can be told with that one's secret, and not with another one's, nor with the public terms: the printed law tells true for any three numbers. -/
import Derived.Test.YtnieihhnchefdaaEvRef
import Derived.Test.YtnieihhnchefdaaEvShown4
import Derived.Test.YtnieihhnchefdaaHubB
namespace Go.Proofs.Ytnieihhnchefdaa.Pure
open Go.RowKit Go.Proofs.Ytnieihhnchefdaa Go.Proofs.Ytnieihhnchefdaa.Ref Go.Proofs.Ytnieihhnchefdaa.PA Go.Proofs.YtnieihhnchefdaaW.PrintWords Go.Proofs.YtnieihhnchefdaaW.PrintLast
set_option linter.unusedVariables false

theorem boxes_core (a b n : Nat) (ha : a < 18446744073709551616) (hb : b < 18446744073709551616) (hn : n < 18446744073709551616) (hab : a ≠ b) (han : a ≠ n) (hbn : b ≠ n) (v : Bool) :
    Ev (fun k => letterlocklaw4_ClosureBoxes.j0 k (a : Int) (b : Int) (n : Int) v false) true := by
  have wa : ∀ m : Nat, m < 18446744073709551616 → Wf (.atom m) := fun m h => ⟨h, by have := len_atom m h; omega⟩
  have wu : ∀ m : Nat, m < 18446744073709551616 → Wf (.one .u (.atom m)) := fun m h => ⟨h, by have := len_atom m h; simp only [enc, List.length_cons] at this ⊢; omega⟩
  have wb : ∀ m : Nat, m < 18446744073709551616 → Wf (.two .b (.one .u (.atom m)) (.atom n)) := fun m h => ⟨⟨h, hn, fun _ => rfl⟩, by have := len_atom m h; have := len_atom n hn; simp only [enc, List.length_cons, List.length_append] at *; omega⟩
  have eat : ∀ m : Nat, m < 18446744073709551616 → Ev (fun k => letterlockref3_OfAtom.f k (m : Int)) (tm (.atom m)) := fun m h => by
    have := refAtom_ev m h
    rwa [atomB_tm] at this
  have epu : ∀ m : Nat, m < 18446744073709551616 → Ev (fun k => letterlockref3_OfPublic.f k (tm (.atom m))) (tm (.one .u (.atom m)), 0) := fun m h => by
    have := refPublic_ev (tm (.atom m))
    rw [show ofF (⟨#[117]⟩ : ByteArray) [tm (.atom m)] = _ from one_tm (k := .u) (wu m h)] at this
    exact this
  have ebo : ∀ m : Nat, m < 18446744073709551616 → Ev (fun k => letterlockref3_Box.f k (tm (.one .u (.atom m))) (tm (.atom n))) (tm (.two .b (.one .u (.atom m)) (.atom n)), 0) := fun m h => by
    have := refBox_ev (tm (.one .u (.atom m))) (tm (.atom n))
    have hbt : bt (tm (.one .u (.atom m))) 0 = 117 := by
      have h1 := bt_bytes (tm (.one .u (.atom m))) 0 (by rw [size_tm]; exact enc_pos _)
      simp only [bytes_tm, enc, List.getElem_cons_zero] at h1
      exact h1
    unfold boxF at this
    rw [if_pos (right_tm (wu m h)), if_pos hbt, show ofF (⟨#[98]⟩ : ByteArray) [tm (.one .u (.atom m)), tm (.atom n)] = _ from two_tm (k := .b) (wb m h)] at this
    exact this
  have wall : ∀ t : T, t = .atom a ∨ t = .atom b ∨ t = .atom n ∨ t = .one .u (.atom a) ∨ t = .one .u (.atom b) ∨ t = .two .b (.one .u (.atom a)) (.atom n) ∨ t = .two .b (.one .u (.atom b)) (.atom n) → Wf t := by
    rintro t (rfl | rfl | rfl | rfl | rfl | rfl | rfl)
    · exact wa a ha
    · exact wa b hb
    · exact wa n hn
    · exact wu a ha
    · exact wu b hb
    · exact wb a ha
    · exact wb b hb
  -- what each comes to
  have d1 : closure_Derives.f [tm (.two .b (.one .u (.atom a)) (.atom n)), tm (.atom a)] (tm (.atom n)) = some (true, 0) := by
    have h := derives_tm (ts := [T.two .b (.one .u (.atom a)) (.atom n), .atom a]) (t := .atom n) (fun u hu => wall u (by simp at hu; rcases hu with h | h <;> simp [h])) (by simp) (wa n hn)
    have e : tog (hadL [T.two .b (.one .u (.atom a)) (.atom n), .atom a]) (.atom n) = true := by
      have h1 := hadL_sup [T.two .b (.one .u (.atom a)) (.atom n), .atom a] (.two .b (.one .u (.atom a)) (.atom n)) (by simp)
      have h2 := hadL_sup [T.two .b (.one .u (.atom a)) (.atom n), .atom a] (.atom a) (by simp)
      refine tog_of_mem (hadL_closed _ _ h1 _ ?_)
      simp only [gives]
      rw [if_pos (tog_of_mem h2)]; simp
    rw [e] at h; exact h
  have d2 : closure_Derives.f [tm (.two .b (.one .u (.atom a)) (.atom n)), tm (.atom b), tm (.one .u (.atom a)), tm (.one .u (.atom b))] (tm (.atom n)) = some (false, 0) := by
    have h := derives_tm (ts := [T.two .b (.one .u (.atom a)) (.atom n), .atom b, .one .u (.atom a), .one .u (.atom b)]) (t := .atom n) (fun u hu => wall u (by simp at hu; rcases hu with h | h | h | h <;> simp [h])) (by simp) (wa n hn)
    have hk : tog [T.two .b (.one .u (.atom a)) (.atom n), .atom b, .one .u (.atom a), .one .u (.atom b)] (.atom a) = false := contains_not (by simp [hab])
    have hc : ClosedT [T.two .b (.one .u (.atom a)) (.atom n), .atom b, .one .u (.atom a), .one .u (.atom b)] := by
      intro t ht x hx
      simp only [List.mem_cons, List.not_mem_nil, or_false] at ht
      rcases ht with rfl | rfl | rfl | rfl
      · simp only [gives] at hx; rw [hk] at hx; simp at hx
      · simp [gives] at hx
      · simp [gives] at hx
      · simp [gives] at hx
    rw [tog_closedT hc, show tog [T.two .b (.one .u (.atom a)) (.atom n), .atom b, .one .u (.atom a), .one .u (.atom b)] (.atom n) = false from contains_not (by simp [Ne.symm hbn])] at h
    exact h
  have d3 : closure_Derives.f [tm (.two .b (.one .u (.atom a)) (.atom n)), tm (.two .b (.one .u (.atom b)) (.atom n)), tm (.one .u (.atom a)), tm (.one .u (.atom b))] (tm (.atom n)) = some (false, 0) := by
    have h := derives_tm (ts := [T.two .b (.one .u (.atom a)) (.atom n), .two .b (.one .u (.atom b)) (.atom n), .one .u (.atom a), .one .u (.atom b)]) (t := .atom n) (fun u hu => wall u (by simp at hu; rcases hu with h | h | h | h <;> simp [h])) (by simp) (wa n hn)
    have hk : ∀ m : Nat, tog [T.two .b (.one .u (.atom a)) (.atom n), .two .b (.one .u (.atom b)) (.atom n), .one .u (.atom a), .one .u (.atom b)] (.atom m) = false := fun m => contains_not (by simp)
    have hc : ClosedT [T.two .b (.one .u (.atom a)) (.atom n), .two .b (.one .u (.atom b)) (.atom n), .one .u (.atom a), .one .u (.atom b)] := by
      intro t ht x hx
      simp only [List.mem_cons, List.not_mem_nil, or_false] at ht
      rcases ht with rfl | rfl | rfl | rfl
      · simp only [gives] at hx; rw [hk] at hx; simp at hx
      · simp only [gives] at hx; rw [hk] at hx; simp at hx
      · simp [gives] at hx
      · simp [gives] at hx
    rw [tog_closedT hc, hk n] at h
    exact h
  have d4 : closure_Derives.f [tm (.atom n), tm (.one .u (.atom a))] (tm (.two .b (.one .u (.atom a)) (.atom n))) = some (true, 0) := by
    have h := derives_tm (ts := [T.atom n, .one .u (.atom a)]) (t := .two .b (.one .u (.atom a)) (.atom n)) (fun u hu => wall u (by simp at hu; rcases hu with h | h <;> simp [h])) (by simp) (wb a ha)
    have h1 := hadL_sup [T.atom n, .one .u (.atom a)] (.atom n) (by simp)
    have h2 := hadL_sup [T.atom n, .one .u (.atom a)] (.one .u (.atom a)) (by simp)
    have e : tog (hadL [T.atom n, .one .u (.atom a)]) (.two .b (.one .u (.atom a)) (.atom n)) = true := by
      rw [tog, tog_of_mem h1, tog_of_mem h2]; simp
    rw [e] at h; exact h
  have d5 : closure_Derives.f [tm (.two .b (.one .u (.atom a)) (.atom n)), tm (.two .b (.one .u (.atom b)) (.atom n))] (tm (.one .u (.atom a))) = some (false, 0) := by
    have h := derives_tm (ts := [T.two .b (.one .u (.atom a)) (.atom n), .two .b (.one .u (.atom b)) (.atom n)]) (t := .one .u (.atom a)) (fun u hu => wall u (by simp at hu; rcases hu with h | h <;> simp [h])) (by simp) (wu a ha)
    have hk : ∀ m : Nat, tog [T.two .b (.one .u (.atom a)) (.atom n), .two .b (.one .u (.atom b)) (.atom n)] (.atom m) = false := fun m => contains_not (by simp)
    have hc : ClosedT [T.two .b (.one .u (.atom a)) (.atom n), .two .b (.one .u (.atom b)) (.atom n)] := by
      intro t ht x hx
      simp only [List.mem_cons, List.not_mem_nil, or_false] at ht
      rcases ht with rfl | rfl
      · simp only [gives] at hx; rw [hk] at hx; simp at hx
      · simp only [gives] at hx; rw [hk] at hx; simp at hx
    have e : tog [T.two .b (.one .u (.atom a)) (.atom n), .two .b (.one .u (.atom b)) (.atom n)] (.one .u (.atom a)) = false := by
      rw [tog, hk a, contains_not (by simp)]; rfl
    rw [tog_closedT hc, e] at h
    exact h
  refine Ev.step (fun _ => rfl) ?_
  exact Ev.bind (eat a ha) (Ev.bind (eat b hb) (Ev.bind (eat n hn) (Ev.bind (epu a ha) (Ev.bind (epu b hb) (Ev.bind (ebo a ha) (Ev.bind (ebo b hb) (Ev.put d1 (Ev.put d2 (Ev.put d3 (Ev.put d4 (Ev.put d5 (Ev.pos rfl (Ev.pos rfl (Ev.pos rfl (Ev.pos rfl (Ev.pos rfl (Ev.pos rfl (Ev.neg (by simp) (Ev.neg (by simp) (Ev.pos rfl (Ev.now _)))))))))))))))))))))

theorem ClosureBoxes : letterlocklaw4_ClosureBoxes.Pure := by
  intro a0 a1 a2 h0 h1 h2
  refine Ev.rounds ?_
  have g0 : 0 ≤ a0 ∧ a0 ≤ 18446744073709551615 := by simpa [Lit.wf, IntKind.min, IntKind.max, IntKind.signed, IntKind.bits] using h0
  have g1 : 0 ≤ a1 ∧ a1 ≤ 18446744073709551615 := by simpa [Lit.wf, IntKind.min, IntKind.max, IntKind.signed, IntKind.bits] using h1
  have g2 : 0 ≤ a2 ∧ a2 ≤ 18446744073709551615 := by simpa [Lit.wf, IntKind.min, IntKind.max, IntKind.signed, IntKind.bits] using h2
  obtain ⟨a, rfl⟩ := Int.eq_ofNat_of_zero_le g0.1
  obtain ⟨b, rfl⟩ := Int.eq_ofNat_of_zero_le g1.1
  obtain ⟨n, rfl⟩ := Int.eq_ofNat_of_zero_le g2.1
  unfold letterlocklaw4_ClosureBoxes.f
  refine Ev.put shown4_val (Ev.pos rfl ?_)
  by_cases e1 : (a : Int) = b
  · exact Ev.pos e1 (Ev.step (fun _ => rfl) (Ev.now _))
  refine Ev.neg e1 ?_
  by_cases e2 : (a : Int) = n
  · exact Ev.pos e2 (Ev.step (fun _ => rfl) (Ev.now _))
  refine Ev.neg e2 ?_
  by_cases e3 : (b : Int) = n
  · rw [beq_iff_eq.mpr e3]
    exact Ev.step (fun _ => rfl) (Ev.now _)
  · rw [beq_eq_false_iff_ne.mpr e3]
    exact boxes_core a b n (by omega) (by omega) (by omega) (by omega) (by omega) (by omega) true

end Go.Proofs.Ytnieihhnchefdaa.Pure
