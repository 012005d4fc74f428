import Derived.Test.YtpgbhgpjfjeomaaEvSecret
namespace Go.Proofs.Ytpgbhgpjfjeomaa.Pure
open Go.RowKit Go.Proofs.Ytpgbhgpjfjeomaa Go.Proofs.Ytpgbhgpjfjeomaa.Ref Go.Proofs.Ytpgbhgpjfjeomaa.PA Go.Proofs.YtpgbhgpjfjeomaaW.PrintWords Go.Proofs.YtpgbhgpjfjeomaaW.PrintLast
set_option linter.unusedVariables false

theorem ofF_codes {c : ByteArray} {l : List ByteArray} (h : l.all right = true) (h0 : (ofF c l).2 ≠ 0) : (ofF c l).2 = 10 := by
  unfold ofF at h0 ⊢
  rw [if_pos h] at h0 ⊢
  split
  · rename_i h2; rw [if_pos h2] at h0; exact absurd rfl h0
  · rfl
theorem ofF_val {c : ByteArray} {l : List ByteArray} (h0 : (ofF c l).2 = 0) : (ofF c l).1 = catB c l := by
  unfold ofF at h0 ⊢
  split
  · rename_i h1
    rw [if_pos h1] at h0
    split
    · rfl
    · rename_i h2; rw [if_neg h2] at h0; exact absurd h0 (by simp)
  · rename_i h1; rw [if_neg h1] at h0; exact absurd h0 (by simp)

theorem DrawSecret : letterlocklaw5_DrawSecret.Pure := by
  intro a0 a1 a2 h0 h1 h2
  refine Ev.rounds ?_
  have hn : 0 ≤ a2 ∧ a2 ≤ 18446744073709551615 := by simpa [Lit.wf, IntKind.min, IntKind.max, IntKind.signed, IntKind.bits] using h2
  obtain ⟨n, rfl⟩ := Int.eq_ofNat_of_zero_le hn.1
  have hn : n < 18446744073709551616 := by omega
  unfold letterlocklaw5_DrawSecret.f
  refine Ev.put (a := true) rfl (Ev.pos rfl ?_)
  rw [w64 (by omega) (by omega)]
  by_cases hs : (a0.size : Int) + (a1.size : Int) > 6000
  · exact Ev.step (fun _ => rfl) (Ev.pos (decide_eq_true hs) (Ev.now _))
  refine Ev.step (fun _ => rfl) (Ev.neg (by simpa using hs) (Ev.bind (secret_ev a0 a1 n (by omega) (by omega) hn) ?_))
  refine Ev.pos (by omega) (Ev.pos (by rw [ByteArray.size_append, size_one]; omega) (Ev.bind (ofText_ev (nameB a0 a1) (by rw [nameB_size]; omega)) (Ev.bind (ofAtom_ev n hn) ?_)))
  have h10 := size_atomB hn
  refine Ev.put (pair_val (textF (nameB a0 a1)).1 (atomB n) (by have := textF_size (nameB a0 a1); omega) (by omega)) ?_
  refine Ev.put (hash_val (pairF (textF (nameB a0 a1)).1 (atomB n)).1 (by have := pair_size (textF (nameB a0 a1)).1 (atomB n); omega)) ?_
  refine Ev.const ?_
  have hR := right_atomB hn
  have hT := textF_right (nameB a0 a1)
  have he : ((⟨#[]⟩ : ByteArray).toList == ([] : List UInt8)) = true := by rw [bytes_toList]; rfl
  unfold secretF
  by_cases c1 : (textF (nameB a0 a1)).2 = 0
  · have hT : right (textF (nameB a0 a1)).1 = true := by
      by_cases hr : right (textB (nameB a0 a1)) = true
      · rw [hT, if_pos hr]; exact hr
      · rw [hT, if_neg hr] at c1; exact absurd c1 (by simp)
    generalize textF (nameB a0 a1) = tx at c1 hT ⊢
    by_cases c2 : (pairF tx.1 (atomB n)).2 = 0
    · have hP := ofF_right c2
      have hP : right (pairF tx.1 (atomB n)).1 = true := hP
      generalize pairF tx.1 (atomB n) = p at c2 hP ⊢
      by_cases c3 : (hashF p.1).2 = 0
      · simp only [if_pos c1, if_pos c2, if_pos c3, if_true]
        have hv : (hashF p.1).1 = ⟨#[104]⟩ ++ p.1 := ofF_val c3
        rw [hv, if_pos (by rw [ByteArray.size_append, size_one]; omega)]
        have hb : bt ((⟨#[104]⟩ : ByteArray) ++ p.1) 0 = 104 := by
          have h9 : (0 : Int).toNat < ((⟨#[104]⟩ : ByteArray) ++ p.1).size := by rw [ByteArray.size_append, size_one]; show 0 < _; omega
          rw [← bt_at _ _ h9]
          rfl
        rw [hb]; rfl
      · have h4 : (hashF p.1).2 = 10 := ofF_codes (by simp [hP]) c3
        have h5 : (hashF p.1).1 = ⟨#[]⟩ := ofF_err c3
        simp only [if_pos c1, if_pos c2, if_neg c3]
        rw [if_pos h4, h5, he]
    · have h4 : (pairF tx.1 (atomB n)).2 = 10 := ofF_codes (by simp [hT, hR]) c2
      simp only [if_pos c1, if_neg c2]
      rw [if_pos h4, he]
  · have h4 : (textF (nameB a0 a1)).2 = 10 := by
      by_cases hr : right (textB (nameB a0 a1)) = true
      · rw [hT, if_pos hr] at c1; exact absurd rfl c1
      · rw [hT, if_neg hr]
    simp only [if_neg c1]
    rw [if_pos h4, he]

end Go.Proofs.Ytpgbhgpjfjeomaa.Pure
