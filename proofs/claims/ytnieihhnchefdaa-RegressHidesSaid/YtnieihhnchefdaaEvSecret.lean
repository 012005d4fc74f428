/- What draw.Secret's printed words come to. -/
import Derived.Test.YtnieihhnchefdaaEvBase
import Derived.Test.YtnieihhnchefdaaHubS
namespace Go.Proofs.Ytnieihhnchefdaa.Ref
open Go.RowKit Go.Proofs.Ytnieihhnchefdaa Go.Proofs.Ytnieihhnchefdaa.PA Go.Proofs.YtnieihhnchefdaaW.PrintWords Go.Proofs.YtnieihhnchefdaaW.PrintLast
set_option linter.unusedVariables false

/-! ### Secrets -/
def nameB (a b : ByteArray) : ByteArray := (a ++ ⟨#[58]⟩) ++ b
def secretF (a b : ByteArray) (n : Nat) : ByteArray × Int :=
  if (textF (nameB a b)).2 = 0 then (if (pairF (textF (nameB a b)).1 (atomB n)).2 = 0 then hashF (pairF (textF (nameB a b)).1 (atomB n)).1 else (⟨#[]⟩, (pairF (textF (nameB a b)).1 (atomB n)).2)) else (⟨#[]⟩, (textF (nameB a b)).2)
theorem ofAtom_ev (n : Nat) (h : n < 18446744073709551616) : Ev (fun k => term_OfAtom.f k (n : Int)) (atomB n) := by
  unfold term_OfAtom.f
  have := size_numB h
  exact Ev.bind (wirePut_ev n h) (Ev.pos (show 1 + (numB n).size ≤ _ by omega) (Ev.now _))
theorem nameB_size (a b : ByteArray) : (nameB a b).size = a.size + 1 + b.size := by
  unfold nameB; rw [ByteArray.size_append, ByteArray.size_append, size_one]
theorem secret_ev (a b : ByteArray) (n : Nat) (ha : a.size ≤ 1000000) (hb : b.size ≤ 1000000) (h : n < 18446744073709551616) :
    Ev (fun k => draw_Secret.f k a b (n : Int)) (secretF a b n) := by
  have hs := nameB_size a b
  have h10 := size_atomB h
  unfold draw_Secret.f secretF
  refine Ev.pos (by omega) (Ev.pos (by rw [ByteArray.size_append, size_one]; omega) (Ev.bind (ofText_ev (nameB a b) (by omega)) ?_))
  by_cases h0 : (textF (nameB a b)).2 = 0
  · rw [if_pos h0]
    refine Ev.pos h0 (Ev.bind (ofAtom_ev n h) (Ev.put (pair_val _ _ (by have := textF_size (nameB a b); omega) (by omega)) (Ev.step (fun _ => rfl) ?_)))
    have h4 := pair_size (textF (nameB a b)).1 (atomB n)
    by_cases h1 : (pairF (textF (nameB a b)).1 (atomB n)).2 = 0
    · rw [if_pos h1]
      refine Ev.pos h1 (Ev.put (hash_val _ (by omega)) ?_)
      by_cases h2 : (hashF (pairF (textF (nameB a b)).1 (atomB n)).1).2 = 0
      · exact Ev.pos h2 (ev_cast (Ev.now _) (Prod.ext rfl h2.symm))
      · exact Ev.neg h2 (ev_cast (Ev.now _) (Prod.ext (ofF_err h2).symm rfl))
    · rw [if_neg h1]
      exact Ev.neg h1 (Ev.now _)
  · rw [if_neg h0]
    exact Ev.neg h0 (Ev.step (fun _ => rfl) (Ev.neg h0 (Ev.now _)))

def rootT (a b : ByteArray) (n : Nat) : T := .one .h (.two .p (.text (bytes (nameB a b))) (.atom n))
theorem rootT_ok (a b : ByteArray) (n : Nat) (hs : (nameB a b).size ≤ 1010) (h : n < 18446744073709551616) : ok 3 (rootT a b n) :=
  ⟨show (bytes (nameB a b)).length ≤ 4000 by rw [bytes_length]; omega, h, fun e => by simp at e⟩
theorem rootT_len (a b : ByteArray) (n : Nat) (hs : (nameB a b).size ≤ 1010) (h : n < 18446744073709551616) : (enc (rootT a b n)).length ≤ 1100 := by
  have h1 := len_text (nameB a b) (by omega)
  have h2 := len_atom n h
  simp only [rootT, enc, List.length_cons, List.length_append] at h1 h2 ⊢; omega
theorem secret_tm (a b : ByteArray) (n : Nat) (hs : (nameB a b).size ≤ 1010) (h : n < 18446744073709551616) : secretF a b n = (tm (rootT a b n), 0) := by
  have h1 := len_text (nameB a b) (by omega)
  have h2 := len_atom n h
  have hw2 : Wf (rootT a b n) := ⟨ok_mono (rootT_ok a b n hs h) (by omega), by have := rootT_len a b n hs h; omega⟩
  have hw1 : Wf (.two .p (.text (bytes (nameB a b))) (.atom n)) := ⟨ok_mono (d := 2) (rootT_ok a b n hs h) (by omega), by have := hw2.2; simp only [rootT, enc, List.length_cons, List.length_append] at this ⊢; omega⟩
  have ht : textF (nameB a b) = (textB (nameB a b), 0) := by
    unfold textF
    rw [if_neg]
    rw [textB_tm, size_tm]; omega
  unfold secretF
  rw [ht, if_pos rfl, textB_tm, atomB_tm, pair_tm hw1, if_pos rfl]
  exact hash_tm hw2

end Go.Proofs.Ytnieihhnchefdaa.Ref
