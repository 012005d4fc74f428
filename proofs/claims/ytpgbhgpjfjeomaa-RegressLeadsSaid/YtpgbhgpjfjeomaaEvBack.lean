/- What the printed words of regress and draw come to: hashes of hashes, keys, secrets. -/
import Derived.Test.YtpgbhgpjfjeomaaEvPut
namespace Go.Proofs.Ytpgbhgpjfjeomaa.Ref
open Go.RowKit Go.Proofs.Ytpgbhgpjfjeomaa Go.Proofs.Ytpgbhgpjfjeomaa.PA Go.Proofs.YtpgbhgpjfjeomaaW.PrintWords Go.Proofs.YtpgbhgpjfjeomaaW.PrintLast
set_option linter.unusedVariables false

theorem ofF_err {c : ByteArray} {l : List ByteArray} (h : (ofF c l).2 ≠ 0) : (ofF c l).1 = ⟨#[]⟩ := by
  unfold ofF at h ⊢
  split
  · rename_i h1
    rw [if_pos h1] at h
    split
    · rename_i h2; rw [if_pos h2] at h; exact absurd rfl h
    · rfl
  · rfl

def hashesF : Nat → ByteArray → ByteArray × Int
  | 0, s => (s, 0)
  | n + 1, s => if (hashF s).2 = 0 then hashesF n (hashF s).1 else (⟨#[]⟩, (hashF s).2)
def backF (s : ByteArray) (n : Int) : ByteArray × Int := if right s = true then (if n < 0 then (⟨#[]⟩, 1) else hashesF n.toNat s) else (⟨#[]⟩, 1)
def stateF (s : ByteArray) (e : Int) : ByteArray × Int := if right s = true then (if e < 0 then (⟨#[]⟩, 9) else if 7 < e then (⟨#[]⟩, 9) else backF s (7 - e)) else (⟨#[]⟩, 1)
def keyB : ByteArray := ⟨#[107, 101, 121]⟩
def keyF (s : ByteArray) : ByteArray × Int :=
  if right s = true then (if (pairF (textB keyB) s).2 = 0 then hashF (pairF (textB keyB) s).1 else (⟨#[]⟩, (pairF (textB keyB) s).2)) else (⟨#[]⟩, 1)

theorem hash_size (s : ByteArray) : (hashF s).1.size ≤ 4000 := ofF_size _ _
theorem pair_size (a b : ByteArray) : (pairF a b).1.size ≤ 4000 := ofF_size _ _
theorem kind_val (s : ByteArray) (h : s.size ≤ 9223372036854774000) : term_Kind.f s = some (kindF s) := by
  unfold term_Kind.f; rw [if_pos h]

theorem back_loop (m : Nat) (s : ByteArray) (n i : Int) (h : s.size ≤ 9223372036854774000) (hm : n - i = m) (hn : n ≤ 9223372036854775807) (hi : 0 ≤ i) :
    Ev (fun k => regress_Back.l0 k s n i) (hashesF m s) := by
  induction m generalizing s i with
  | zero => exact Ev.step (fun _ => rfl) (Ev.neg (by omega) (Ev.now _))
  | succ m ih =>
    refine Ev.step (fun _ => rfl) (Ev.pos (by omega) (Ev.put (hash_val s h) ?_))
    unfold hashesF
    by_cases h0 : (hashF s).2 = 0
    · rw [if_pos h0]
      refine Ev.pos h0 ?_
      rw [w64 (by omega) (by omega)]
      exact ih _ _ (by have := hash_size s; omega) (by omega) (by omega)
    · rw [if_neg h0]
      exact Ev.neg h0 (Ev.now _)
theorem back_ev (s : ByteArray) (n : Int) (h : s.size ≤ 9223372036854774000) (hn : n ≤ 9223372036854775807) : Ev (fun k => regress_Back.f k s n) (backF s n) := by
  unfold regress_Back.f backF
  refine Ev.put (kind_val s h) ?_
  cases hr : right s with
  | false =>
    rw [if_neg (by simp)]
    exact Ev.pos ((kindF_zero s).2 hr) (Ev.step (fun _ => rfl) (Ev.now _))
  | true =>
    rw [if_pos rfl]
    refine Ev.neg (fun e => by rw [(kindF_zero s).1 e] at hr; simp at hr) ?_
    by_cases h0 : n < 0
    · rw [if_pos h0]
      exact Ev.step (fun _ => rfl) (Ev.pos (decide_eq_true h0) (Ev.now _))
    · rw [if_neg h0]
      refine Ev.step (fun _ => rfl) (Ev.neg (by simpa using h0) ?_)
      exact back_loop n.toNat s n 0 h (by omega) hn (by omega)
theorem state_ev (s : ByteArray) (e : Int) (h : s.size ≤ 9223372036854774000) : Ev (fun k => regress_State.f k s e) (stateF s e) := by
  unfold regress_State.f stateF
  refine Ev.put (kind_val s h) ?_
  cases hr : right s with
  | false =>
    rw [if_neg (by simp)]
    exact Ev.pos ((kindF_zero s).2 hr) (Ev.now _)
  | true =>
    rw [if_pos rfl]
    refine Ev.neg (fun e => by rw [(kindF_zero s).1 e] at hr; simp at hr) ?_
    by_cases h0 : e < 0
    · rw [if_pos h0]; exact Ev.pos h0 (Ev.now _)
    rw [if_neg h0]
    refine Ev.neg h0 ?_
    by_cases h1 : 7 < e
    · rw [if_pos h1]; exact Ev.pos (by omega) (Ev.now _)
    rw [if_neg h1]
    refine Ev.neg (by omega) ?_
    rw [w64 (by omega) (by omega)]
    exact Ev.bind (back_ev s (7 - e) h (by omega)) (Ev.now _)
theorem key_text : textF keyB = (textB keyB, 0) := by
  unfold textF
  rw [if_neg]
  have := size_numB (n := keyB.size) (by decide)
  unfold textB
  rw [ByteArray.size_append, ByteArray.size_append, size_one, show keyB.size = 3 from rfl]
  rw [show keyB.size = 3 from rfl] at this
  omega
theorem textB_key_size : (textB keyB).size ≤ 4000 := by
  have := textF_size keyB
  rwa [key_text] at this
theorem key_ev (s : ByteArray) (h : s.size ≤ 9223372036854774000) : Ev (fun k => regress_Key.f k s) (keyF s) := by
  unfold regress_Key.f keyF
  refine Ev.put (kind_val s h) ?_
  cases hr : right s with
  | false =>
    rw [if_neg (by simp)]
    exact Ev.pos ((kindF_zero s).2 hr) (Ev.now _)
  | true =>
    rw [if_pos rfl]
    refine Ev.neg (fun e => by rw [(kindF_zero s).1 e] at hr; simp at hr) ?_
    have ht := ofText_ev keyB (by decide)
    rw [key_text] at ht
    refine Ev.bind ht (Ev.put (pair_val (textB keyB) s (by have := textB_key_size; omega) h) ?_)
    by_cases h0 : (pairF (textB keyB) s).2 = 0
    · simp only [if_pos h0]
      exact Ev.put (hash_val _ (by have := pair_size (textB keyB) s; omega)) (Ev.now _)
    · simp only [if_neg h0]
      exact Ev.now _

theorem pick_val (n m : Int) (hn : (Lit.int .i64 n).wf = true) (hm : 0 < m) : ∃ r, letterlocklaw6_pick.f n m = some r ∧ 0 ≤ r ∧ r < m := by
  have hw : -9223372036854775808 ≤ n ∧ n ≤ 9223372036854775807 := by
    simpa [Lit.wf, IntKind.min, IntKind.max, IntKind.bits, IntKind.signed] using hn
  unfold letterlocklaw6_pick.f
  by_cases h0 : n < 0
  · rw [if_pos h0, if_neg (by omega), w64 (n := n + 1) (by omega) (by omega), w64 (by omega) (by omega)]
    exact ⟨_, rfl, by rw [Int.tmod_eq_emod_of_nonneg (by omega)]; exact ⟨Int.emod_nonneg _ (by omega), Int.emod_lt_of_pos _ hm⟩⟩
  · rw [if_neg h0, if_neg (by omega)]
    exact ⟨_, rfl, by rw [Int.tmod_eq_emod_of_nonneg (by omega)]; exact ⟨Int.emod_nonneg _ (by omega), Int.emod_lt_of_pos _ hm⟩⟩

/-! ### What hashes of right terms are -/
theorem hash_of {s : ByteArray} {t : T} (h : bytes s = enc t) (hw : Wf (.one .h t)) : hashF s = (⟨#[104]⟩ ++ s, 0) := by
  have h1 : right s = true := right_of h ⟨ok_mono (d := 39) (show ok 39 t from hw.1) (by omega), by have := hw.2; simp only [enc, List.length_cons] at this; omega⟩
  have h2 : right ((⟨#[104]⟩ : ByteArray) ++ s) = true := right_of (t := .one .h t) (by rw [bytes_append, h]; rfl) hw
  unfold hashF ofF
  rw [if_pos (by simp [h1]), if_pos (show right (catB ⟨#[104]⟩ [s]) = true from h2)]
  rfl
theorem shown_five : backF (⟨#[97, 1, 5]⟩ : ByteArray) 1 = (⟨#[104, 97, 1, 5]⟩, 0) := by
  have h1 : bytes (⟨#[97, 1, 5]⟩ : ByteArray) = enc (.atom 5) := by
    show [97, 1, 5] = 97 :: putL 5
    unfold putL
    rw [beBytes_pos (by decide), show 5 / 256 = 0 from rfl, beBytes_zero]
    rfl
  have h2 : (putL 5).length ≤ 9 := putL_len (by decide)
  have hw : Wf (.one .h (.atom 5)) := ⟨show 5 < 18446744073709551616 by decide, by simp only [enc, List.length_cons]; omega⟩
  have hr : right (⟨#[97, 1, 5]⟩ : ByteArray) = true := right_of h1 ⟨show 5 < 18446744073709551616 by decide, by simp only [enc, List.length_cons]; omega⟩
  have hh := hash_of h1 hw
  unfold backF
  rw [if_pos hr, if_neg (by omega)]
  show hashesF 1 _ = _
  unfold hashesF
  rw [hh, if_pos rfl]
  rfl
theorem shown6_ev : Ev (fun k => letterlocklaw6_shown.f k) true := by
  unfold letterlocklaw6_shown.f
  have h := back_ev (⟨#[97, 1, 5]⟩ : ByteArray) 1 (by decide) (by decide)
  rw [shown_five] at h
  refine Ev.bind h (Ev.pos (by rw [bytes_toList]; rfl) (Ev.now _))

end Go.Proofs.Ytpgbhgpjfjeomaa.Ref
