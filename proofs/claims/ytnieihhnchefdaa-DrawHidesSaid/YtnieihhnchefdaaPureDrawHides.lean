/- Secrets of others, or of another number, are others; none can be told without its atom, and with that each can: the printed law tells true for all texts and numbers. -/
import Derived.Test.YtnieihhnchefdaaEvDerives
import Derived.Test.YtnieihhnchefdaaHubH
namespace Go.Proofs.Ytnieihhnchefdaa.Pure
open Go.RowKit Go.Proofs.Ytnieihhnchefdaa Go.Proofs.Ytnieihhnchefdaa.Ref Go.Proofs.Ytnieihhnchefdaa.PA Go.Proofs.YtnieihhnchefdaaW.PrintWords Go.Proofs.YtnieihhnchefdaaW.PrintLast
set_option linter.unusedVariables false

theorem cut_once {c : UInt8} {a b r s : Bs} (ha : c ∉ a) (hb : c ∉ b) (h : a ++ c :: r = b ++ c :: s) : a = b ∧ r = s := by
  induction a generalizing b with
  | nil =>
    cases b with
    | nil => exact ⟨rfl, by simpa using h⟩
    | cons x b =>
      simp only [List.nil_append, List.cons_append, List.cons.injEq] at h
      exact absurd h.1 (fun e => hb (by rw [e]; simp))
  | cons x a ih =>
    cases b with
    | nil =>
      simp only [List.nil_append, List.cons_append, List.cons.injEq] at h
      exact absurd h.1 (fun e => ha (by rw [← e]; simp))
    | cons y b =>
      simp only [List.cons_append, List.cons.injEq] at h
      obtain ⟨h1, h2⟩ := ih (b := b) (fun e => ha (List.mem_cons_of_mem _ e)) (fun e => hb (List.mem_cons_of_mem _ e)) h.2
      exact ⟨by rw [h.1, h1], h2⟩
theorem bytes_nameB (a b : ByteArray) : bytes (nameB a b) = bytes a ++ 58 :: bytes b := by
  unfold nameB
  rw [bytes_append, bytes_append, show bytes (⟨#[58]⟩ : ByteArray) = [58] from rfl, List.append_assoc]; rfl
/-- No colon stands in it. -/
def Plain (s : ByteArray) : Prop := ∀ j : Nat, j < s.size → bt s (j : Int) ≠ 58
theorem plain_not {s : ByteArray} (h : Plain s) : (58 : UInt8) ∉ bytes s := by
  intro hm
  obtain ⟨j, hj, e⟩ := List.getElem_of_mem hm
  rw [bytes_length] at hj
  refine h j hj ?_
  rw [← bt_at s (j : Int) (by rw [Int.toNat_natCast]; exact hj)]
  have : s[j] = 58 := e
  simp only [Int.toNat_natCast, this]
  rfl
theorem wf_root {a b : ByteArray} {n : Nat} (hs : (nameB a b).size ≤ 1010) (h : n < 18446744073709551616) : Wf (rootT a b n) :=
  ⟨ok_mono (rootT_ok a b n hs h) (by omega), by have := rootT_len a b n hs h; omega⟩
theorem root_eq {a b c d : ByteArray} {n m : Nat} (ha : Plain a) (hc : Plain c) : rootT a b n = rootT c d m ↔ a = c ∧ b = d ∧ n = m := by
  constructor
  · intro h
    simp only [rootT, T.one.injEq, T.two.injEq, T.text.injEq, T.atom.injEq, true_and, bytes_nameB] at h
    obtain ⟨h1, h2⟩ := cut_once (plain_not ha) (plain_not hc) h.1
    exact ⟨bs_inj h1, bs_inj h2, h.2⟩
  · rintro ⟨rfl, rfl, rfl⟩; rfl

theorem hides_core (a b c d : ByteArray) (n m : Nat) (hl : a.size + b.size + c.size + d.size ≤ 1000) (hn : n < 18446744073709551616) (hm : m < 18446744073709551616) (ha : Plain a) (hc : Plain c) :
    Ev (fun k => letterlocklaw5_DrawHides.j3 k (n : Int) (tm (rootT a b n)) (tm (rootT c d m)) false) true := by
  have h1 := wf_root (a := a) (b := b) (by rw [nameB_size]; omega) hn
  have h2 := wf_root (a := c) (b := d) (by rw [nameB_size]; omega) hm
  have hlen := rootT_len a b n (by rw [nameB_size]; omega) hn
  have hpub : Wf (.one .u (rootT a b n)) := ⟨ok_mono (d := 4) (show ok 4 (.one .u (rootT a b n)) from rootT_ok a b n (by rw [nameB_size]; omega) hn) (by omega), by simp only [enc, List.length_cons]; omega⟩
  have hp : term_OfPublic.f (tm (rootT a b n)) = some (tm (.one .u (rootT a b n)), 0) := by
    rw [public_val _ (by have := tm_size_le h1; omega), one_tm hpub]
  have hw : ∀ u ∈ [T.one .u (rootT a b n), rootT c d m], Wf u := by
    intro u hu
    rcases List.mem_cons.1 hu with rfl | hu
    · exact hpub
    · rw [List.mem_singleton.1 hu]; exact h2
  have hcl : ClosedT [T.one .u (rootT a b n), rootT c d m] := closed_plain fun u hu => by
    rcases List.mem_cons.1 hu with rfl | hu
    · exact Or.inl ⟨_, _, rfl⟩
    · rw [List.mem_singleton.1 hu]; exact Or.inl ⟨_, _, rfl⟩
  have d1 := derives_tm (ts := [T.one .u (rootT a b n), rootT c d m]) (t := rootT a b n) hw (by simp) h1
  rw [tog_closed hcl] at d1
  have e1 : tog [T.one .u (rootT a b n), rootT c d m] (rootT a b n) = (enc (rootT a b n) == enc (rootT c d m)) := by
    by_cases e : rootT a b n = rootT c d m
    · rw [tog_mem (by rw [← e]; simp), e]; simp
    · have h3 : ¬ enc (rootT a b n) = enc (rootT c d m) := fun h => e (enc_inj h1.1 h2.1 h)
      rw [beq_eq_false_iff_ne.mpr h3]
      have h4 : rootT a b n ∉ [T.one .u (rootT a b n), rootT c d m] := fun h => by
        rcases List.mem_cons.1 h with h | h
        · simp [rootT] at h
        · exact e (List.mem_singleton.1 h)
      have h5 : T.two .p (.text (bytes (nameB a b))) (.atom n) ∉ [T.one .u (rootT a b n), rootT c d m] := by simp [rootT]
      have h6 : T.atom n ∉ [T.one .u (rootT a b n), rootT c d m] := by simp [rootT]
      have hex : tog [T.one .u (rootT a b n), rootT c d m] (rootT a b n) = ([T.one .u (rootT a b n), rootT c d m].contains (rootT a b n) || ([T.one .u (rootT a b n), rootT c d m].contains (T.two .p (.text (bytes (nameB a b))) (.atom n)) || (true && [T.one .u (rootT a b n), rootT c d m].contains (T.atom n)))) := rfl
      rw [hex, contains_false h4, contains_false h5, contains_false h6]
      rfl
  rw [e1] at d1
  have hwa : Wf (.atom n) := ⟨hn, by have := len_atom n hn; omega⟩
  have hca : ClosedT [T.atom n] := closed_plain fun u hu => Or.inr ⟨n, List.mem_singleton.1 hu⟩
  have d2 := derives_tm (ts := [T.atom n]) (t := rootT a b n) (fun u hu => by rw [List.mem_singleton.1 hu]; exact hwa) (by simp) h1
  have e2 : tog [T.atom n] (rootT a b n) = true := by
    simp [rootT, tog]
  rw [tog_closed hca, e2] at d2
  have hat : Ev (fun k => term_OfAtom.f k (n : Int)) (tm (.atom n)) := by
    have := ofAtom_ev n hn
    rwa [atomB_tm] at this
  refine Ev.step (fun _ => rfl) ?_
  refine Ev.put hp (Ev.put d1 (Ev.bind hat (Ev.put d2 (Ev.pos rfl (Ev.pos rfl (Ev.pos rfl (Ev.const ?_)))))))
  rw [tm_list, tm_list]
  simp

theorem hides_two (a b c d : ByteArray) (n m : Nat) (hl : a.size + b.size + c.size + d.size ≤ 1000) (hn : n < 18446744073709551616) (hm : m < 18446744073709551616) (ha : Plain a) (r i : Nat) (hi : i + r = c.size) (hc : ∀ j : Nat, j < i → bt c (j : Int) ≠ 58) :
    Ev (fun k => letterlocklaw5_DrawHides.l1 k a b (n : Int) c d (m : Int) (i : Int)) true := by
  induction r generalizing i with
  | zero =>
    have hcp : Plain c := fun j hj => hc j (by omega)
    have hs1 := secret_ev a b n (by omega) (by omega) hn
    have hs2 := secret_ev c d m (by omega) (by omega) hm
    rw [secret_tm _ _ _ (by rw [nameB_size]; omega) hn] at hs1
    rw [secret_tm _ _ _ (by rw [nameB_size]; omega) hm] at hs2
    have h1 := wf_root (a := a) (b := b) (by rw [nameB_size]; omega) hn
    have h2 := wf_root (a := c) (b := d) (by rw [nameB_size]; omega) hm
    have hcore := hides_core a b c d n m hl hn hm ha hcp
    have he : (enc (rootT a b n) == enc (rootT c d m)) = decide (a = c ∧ b = d ∧ n = m) := by
      by_cases e : rootT a b n = rootT c d m
      · rw [decide_eq_true ((root_eq ha hcp).1 e), e]; simp
      · have h3 : ¬ enc (rootT a b n) = enc (rootT c d m) := fun h => e (enc_inj h1.1 h2.1 h)
        rw [beq_eq_false_iff_ne.mpr h3, decide_eq_false (fun h => e ((root_eq ha hcp).2 h))]
    refine Ev.step (fun _ => rfl) (Ev.neg (by omega) (Ev.bind hs1 (Ev.bind hs2 (Ev.pos rfl (Ev.pos rfl ?_)))))
    have hlist : ∀ x y : ByteArray, x.toList = y.toList ↔ x = y := fun x y => ⟨fun h => bs_inj (by rwa [bytes_toList, bytes_toList] at h), fun h => by rw [h]⟩
    simp only [tm_list]
    by_cases e1 : a = c
    · refine Ev.pos ((hlist a c).2 e1) ?_
      by_cases e2 : b = d
      · refine Ev.pos ((hlist b d).2 e2) ?_
        have : ((enc (rootT a b n) == enc (rootT c d m)) != ((n : Int) == (m : Int))) = false := by
          rw [he]
          by_cases e3 : n = m
          · rw [decide_eq_true ⟨e1, e2, e3⟩, e3]; simp
          · rw [decide_eq_false (fun h => e3 h.2.2), beq_eq_false_iff_ne.mpr (by omega)]; rfl
        rw [this]; exact hcore
      · refine Ev.neg (fun h => e2 ((hlist b d).1 h)) ?_
        have : ((enc (rootT a b n) == enc (rootT c d m)) != false) = false := by
          rw [he, decide_eq_false (fun h => e2 h.2.1)]; rfl
        rw [this]; exact hcore
    · refine Ev.neg (fun h => e1 ((hlist a c).1 h)) ?_
      have : ((enc (rootT a b n) == enc (rootT c d m)) != false) = false := by
        rw [he, decide_eq_false (fun h => e1 h.1)]; rfl
      rw [this]; exact hcore
  | succ r ih =>
    refine Ev.step (fun _ => rfl) (Ev.pos (by omega) (Ev.pos (by omega) ?_))
    by_cases h : bt c (i : Int) = 58
    · exact Ev.pos h (Ev.now _)
    · refine Ev.neg h ?_
      rw [w64 (by omega) (by omega)]
      exact ih (i + 1) (by omega) (fun j hj => by
        by_cases e : j = i
        · rw [e]; exact h
        · exact hc j (by omega))
theorem hides_one (a b c d : ByteArray) (n m : Nat) (hl : a.size + b.size + c.size + d.size ≤ 1000) (hn : n < 18446744073709551616) (hm : m < 18446744073709551616) (r i : Nat) (hi : i + r = a.size) (ha : ∀ j : Nat, j < i → bt a (j : Int) ≠ 58) :
    Ev (fun k => letterlocklaw5_DrawHides.l0 k a b (n : Int) c d (m : Int) (i : Int)) true := by
  induction r generalizing i with
  | zero =>
    refine Ev.step (fun _ => rfl) (Ev.neg (by omega) ?_)
    exact hides_two a b c d n m hl hn hm (fun j hj => ha j (by omega)) c.size 0 (by omega) (fun j hj => by omega)
  | succ r ih =>
    refine Ev.step (fun _ => rfl) (Ev.pos (by omega) (Ev.pos (by omega) ?_))
    by_cases h : bt a (i : Int) = 58
    · exact Ev.pos h (Ev.now _)
    · refine Ev.neg h ?_
      rw [w64 (by omega) (by omega)]
      exact ih (i + 1) (by omega) (fun j hj => by
        by_cases e : j = i
        · rw [e]; exact h
        · exact ha j (by omega))

theorem DrawHides : letterlocklaw5_DrawHides.Pure := by
  intro a0 a1 a2 a3 a4 a5 s0 s1 h2 s3 s4 h5
  refine Ev.rounds ?_
  have hn : 0 ≤ a2 ∧ a2 ≤ 18446744073709551615 := by simpa [Lit.wf, IntKind.min, IntKind.max, IntKind.signed, IntKind.bits] using h2
  have hm : 0 ≤ a5 ∧ a5 ≤ 18446744073709551615 := by simpa [Lit.wf, IntKind.min, IntKind.max, IntKind.signed, IntKind.bits] using h5
  obtain ⟨n, rfl⟩ := Int.eq_ofNat_of_zero_le hn.1
  obtain ⟨m, rfl⟩ := Int.eq_ofNat_of_zero_le hm.1
  unfold letterlocklaw5_DrawHides.f
  refine Ev.put rfl (Ev.pos rfl ?_)
  rw [w64 (n := (a0.size : Int) + a1.size) (by omega) (by omega), w64 (n := (a0.size : Int) + a1.size + a3.size) (by omega) (by omega), w64 (by omega) (by omega)]
  by_cases h : a0.size + a1.size + a3.size + a4.size ≤ 1000
  · rw [decide_eq_false (by omega)]
    refine Ev.step (fun _ => rfl) ?_
    exact hides_one a0 a1 a3 a4 n m h (by omega) (by omega) a0.size 0 (by omega) (fun j hj => by omega)
  · rw [decide_eq_true (by omega)]
    exact Ev.step (fun _ => rfl) (Ev.now _)

end Go.Proofs.Ytnieihhnchefdaa.Pure
