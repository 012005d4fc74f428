/- Hashes of hashes, keys and secrets at right terms. -/
import Derived.Test.YtpgbhgpjfjeomaaEvBack
namespace Go.Proofs.Ytpgbhgpjfjeomaa.Ref
open Go.RowKit Go.Proofs.Ytpgbhgpjfjeomaa Go.Proofs.Ytpgbhgpjfjeomaa.PA Go.Proofs.YtpgbhgpjfjeomaaW.PrintWords Go.Proofs.YtpgbhgpjfjeomaaW.PrintLast
set_option linter.unusedVariables false

def tm (t : T) : ByteArray := ofBytes (enc t)
theorem bytes_tm (t : T) : bytes (tm t) = enc t := bytes_ofBytes _
theorem size_tm (t : T) : (tm t).size = (enc t).length := size_ofBytes _
theorem right_tm {t : T} (h : Wf t) : right (tm t) = true := right_of (bytes_tm t) h
def hT : Nat → T → T
  | 0, t => t
  | n + 1, t => hT n (.one .h t)
theorem len_hT (n : Nat) (t : T) : (enc (hT n t)).length = n + (enc t).length := by
  induction n generalizing t with
  | zero => simp [hT]
  | succ n ih => simp only [hT, ih, enc, List.length_cons]; omega
theorem ok_hT (n d : Nat) (t : T) (h : ok d t) : ok (d + n) (hT n t) := by
  induction n generalizing t d with
  | zero => exact h
  | succ n ih => exact ok_mono (ih (d + 1) (.one .h t) h) (by omega)
theorem hT_hT (a b : Nat) (t : T) : hT a (hT b t) = hT (b + a) t := by
  induction b generalizing t with
  | zero => simp [hT]
  | succ b ih => rw [show b + 1 + a = (b + a) + 1 from by omega]; exact ih _
theorem hash_tm {t : T} (hw : Wf (.one .h t)) : hashF (tm t) = (tm (.one .h t), 0) := by
  rw [hash_of (bytes_tm t) hw, show (⟨#[104]⟩ : ByteArray) ++ tm t = tm (.one .h t) from bs_inj (by rw [bytes_append, bytes_tm, bytes_tm]; rfl)]
theorem hashes_tm (n d : Nat) (t : T) (h : ok d t) (hd : d + n ≤ 40) (hl : (enc t).length + n ≤ 4000) : hashesF n (tm t) = (tm (hT n t), 0) := by
  induction n generalizing t d with
  | zero => rfl
  | succ n ih =>
    have hh : hashF (tm t) = (tm (.one .h t), 0) := hash_tm ⟨ok_mono (d := d + 1) (show ok (d + 1) (.one .h t) from h) (by omega), by simp only [enc, List.length_cons]; omega⟩
    unfold hashesF
    rw [hh, if_pos rfl]
    exact ih (d + 1) (.one .h t) h (by omega) (by simp only [enc, List.length_cons]; omega)
theorem back_tm (n d : Nat) (t : T) (h : ok d t) (hd : d + n ≤ 40) (hl : (enc t).length + n ≤ 4000) : backF (tm t) (n : Int) = (tm (hT n t), 0) := by
  unfold backF
  rw [if_pos (right_tm ⟨ok_mono h (by omega), by omega⟩), if_neg (by omega), Int.toNat_natCast]
  exact hashes_tm n d t h hd hl
theorem state_tm (e d : Nat) (t : T) (he : e ≤ 7) (h : ok d t) (hd : d + 7 ≤ 40) (hl : (enc t).length + 7 ≤ 4000) : stateF (tm t) (e : Int) = (tm (hT (7 - e) t), 0) := by
  unfold stateF
  rw [if_pos (right_tm ⟨ok_mono h (by omega), by omega⟩), if_neg (by omega), if_neg (by omega), show (7 : Int) - e = ((7 - e : Nat) : Int) from by omega]
  exact back_tm (7 - e) d t h (by omega) (by omega)
theorem pair_tm {a b : T} (hw : Wf (.two .p a b)) : pairF (tm a) (tm b) = (tm (.two .p a b), 0) := by
  have ha : Wf a := ⟨ok_mono (d := 39) hw.1.1 (by omega), by have := hw.2; simp only [enc, List.length_cons, List.length_append] at this; omega⟩
  have hb : Wf b := ⟨ok_mono (d := 39) hw.1.2.1 (by omega), by have := hw.2; simp only [enc, List.length_cons, List.length_append] at this; omega⟩
  have he : catB ⟨#[112]⟩ [tm a, tm b] = tm (.two .p a b) := bs_inj (by
    show bytes ((⟨#[112]⟩ ++ tm a) ++ tm b) = _
    rw [bytes_append, bytes_append, bytes_tm, bytes_tm, bytes_tm]
    simp only [enc, K2.code]
    rfl)
  unfold pairF ofF
  rw [he, if_pos (by simp [right_tm ha, right_tm hb]), if_pos (right_tm hw)]
def keyT (t : T) : T := .one .h (.two .p (.text (bytes keyB)) t)
theorem textB_tm (s : ByteArray) : textB s = tm (.text (bytes s)) := bs_inj (by rw [bytes_textB, bytes_tm])
theorem atomB_tm (n : Nat) : atomB n = tm (.atom n) := bs_inj (by rw [bytes_atomB, bytes_tm])
theorem len_text (s : ByteArray) (h : s.size ≤ 4000) : (enc (.text (bytes s))).length ≤ 10 + s.size := by
  rw [← bytes_textB, bytes_length]
  have := size_numB (n := s.size) (by omega)
  unfold textB
  rw [ByteArray.size_append, ByteArray.size_append, size_one]; omega
theorem len_atom (n : Nat) (h : n < 18446744073709551616) : (enc (.atom n)).length ≤ 10 := by
  rw [← bytes_atomB, bytes_length]; exact size_atomB h
theorem keyB_len : (bytes keyB).length = 3 := rfl
theorem key_tm (d : Nat) (t : T) (h : ok d t) (hd0 : 0 < d) (hd : d + 2 ≤ 40) (hl : (enc t).length + 15 ≤ 4000) : keyF (tm t) = (tm (keyT t), 0) := by
  have h3 := len_text keyB (by decide)
  rw [show keyB.size = 3 from rfl] at h3
  have hw1 : Wf (.two .p (.text (bytes keyB)) t) := by
    refine ⟨ok_mono (d := d + 1) ?_ (by omega), by simp only [enc, List.length_cons, List.length_append] at h3 ⊢; omega⟩
    obtain ⟨d, rfl⟩ : ∃ e, d = e + 1 := ⟨d - 1, by omega⟩
    exact ⟨show (bytes keyB).length ≤ 4000 by rw [keyB_len]; omega, h, fun e => by simp at e⟩
  have hw2 : Wf (keyT t) := by
    refine ⟨ok_mono (d := d + 2) ?_ (by omega), by simp only [keyT, enc, List.length_cons, List.length_append] at h3 ⊢; omega⟩
    obtain ⟨d, rfl⟩ : ∃ e, d = e + 1 := ⟨d - 1, by omega⟩
    exact ⟨show (bytes keyB).length ≤ 4000 by rw [keyB_len]; omega, h, fun e => by simp at e⟩
  unfold keyF
  rw [if_pos (right_tm ⟨ok_mono h (by omega), by omega⟩), textB_tm, pair_tm hw1, if_pos rfl]
  exact hash_tm hw2
theorem len_key (t : T) : (enc t).length < (enc (keyT t)).length := by
  simp only [keyT, enc, List.length_cons, List.length_append]; omega

end Go.Proofs.Ytpgbhgpjfjeomaa.Ref
