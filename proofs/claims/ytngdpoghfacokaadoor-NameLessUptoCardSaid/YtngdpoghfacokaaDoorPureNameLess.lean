/- Names rise as their runes do: the printed law tells true for all numbers that are not too many to be joined. -/
import Derived.Test.YtngdpoghfacokaaDoorEvName2
import Derived.Test.YtngdpoghfacokaaDoorPAx7
namespace Go.Proofs.YtngdpoghfacokaaDoor.Pure
open Go.RowKit Go.Proofs.YtngdpoghfacokaaDoor Go.Proofs.YtngdpoghfacokaaDoor.Ref Go.Proofs.YtngdpoghfacokaaDoor.PA Go.Proofs.YtngdpoghfacokaaDoorW.PrintWords Go.Proofs.YtngdpoghfacokaaDoorW.PrintLast
set_option linter.unusedVariables false

def ltR : List Int → List Int → Bool
  | [], [] => false
  | [], _ :: _ => true
  | _ :: _, [] => false
  | r :: rs, s :: ss => if r = s then ltR rs ss else decide (r < s)
theorem app_lt (p x y : Bs) : (p ++ x < p ++ y) ↔ x < y := by
  induction p with
  | nil => exact Iff.rfl
  | cons c p ih =>
    rw [List.cons_append, List.cons_append, List.cons_lt_cons_iff]
    exact ⟨fun h => h.elim (fun e => absurd e (UInt8.lt_irrefl _)) (fun e => ih.1 e.2), fun h => Or.inr ⟨rfl, ih.2 h⟩⟩
theorem b_lt {a b : Int} (h0 : 0 ≤ a) (h : a < b) (h1 : b ≤ 255) : a.toNat.toUInt8 < b.toNat.toUInt8 := by
  rw [UInt8.lt_iff_toNat_lt, byte_toNat (z := a) (n := a.toNat) rfl (by omega), byte_toNat (z := b) (n := b.toNat) rfl (by omega)]
  omega
theorem enc_lt {r s : Int} (hr : 0 ≤ r) (h : r < s) (hs : s ≤ 2047) (x y : Bs) : Lib.encodeRune r ++ x < Lib.encodeRune s ++ y := by
  unfold Lib.encodeRune
  by_cases h1 : r ≤ 127
  · rw [Lib.encodeRuneZ_one hr h1]
    by_cases h2 : s ≤ 127
    · rw [Lib.encodeRuneZ_one (by omega) h2]
      exact List.cons_lt_cons_iff.2 (Or.inl (b_lt hr h (by omega)))
    · rw [Lib.encodeRuneZ_two (by omega) hs]
      exact List.cons_lt_cons_iff.2 (Or.inl (b_lt hr (by omega) (by omega)))
  · rw [Lib.encodeRuneZ_two (by omega) (by omega), Lib.encodeRuneZ_two (by omega) hs]
    by_cases h3 : r / 64 < s / 64
    · exact List.cons_lt_cons_iff.2 (Or.inl (b_lt (by omega) (by omega) (by omega)))
    · have e : r / 64 = s / 64 := by omega
      rw [e]
      exact List.cons_lt_cons_iff.2 (Or.inr ⟨rfl, List.cons_lt_cons_iff.2 (Or.inl (b_lt (by omega) (by omega) (by omega)))⟩)
theorem letter_range {r : Int} (h : letterZ r = true) : 0 ≤ r ∧ r ≤ 2047 := by
  have := (letter_iff r).1 h
  omega
theorem make_lt : ∀ rs ss : List Int, (∀ r ∈ rs, letterZ r = true) → (∀ r ∈ ss, letterZ r = true) → decide (makeD rs < makeD ss) = ltR rs ss
  | [], [], _, _ => decide_eq_false (List.lt_irrefl _)
  | [], s :: ss, _, _ => by
    rw [makeD_cons]
    show decide (([] : Bs) < _) = true
    have hl := encode_len s
    cases he : Lib.encodeRune s with
    | nil => rw [he] at hl; simp at hl
    | cons c t => exact decide_eq_true (List.nil_lt_cons _ _)
  | r :: rs, [], _, _ => decide_eq_false (List.not_lt_nil _)
  | r :: rs, s :: ss, hr, hs => by
    rw [makeD_cons, makeD_cons]
    have r1 := letter_range (hr r (by simp))
    have s1 := letter_range (hs s (by simp))
    show _ = if r = s then ltR rs ss else decide (r < s)
    by_cases e : r = s
    · rw [if_pos e, e, ← make_lt rs ss (fun x hx => hr x (by simp [hx])) (fun x hx => hs x (by simp [hx]))]
      exact decide_eq_decide.2 (app_lt _ _ _)
    · rw [if_neg e]
      by_cases h : r < s
      · rw [decide_eq_true h]
        exact decide_eq_true (enc_lt r1.1 h s1.2 _ _)
      · rw [decide_eq_false h]
        have h2 := enc_lt s1.1 (show s < r by omega) r1.2 (makeD ss) (makeD rs)
        exact decide_eq_false (fun h3 => List.lt_irrefl _ (List.lt_trans h2 h3))
theorem make_inj {rs ss : List Int} (hr : ∀ r ∈ rs, letterZ r = true) (hs : ∀ r ∈ ss, letterZ r = true) : ofBytes (makeD rs) = ofBytes (makeD ss) ↔ rs = ss := by
  constructor
  · intro h
    have h := congrArg bytes h
    rw [bytes_ofBytes, bytes_ofBytes] at h
    rw [← (runes_of_make fun r h => letter_valid (hr r h)).1, h, (runes_of_make fun r h => letter_valid (hs r h)).1]
  · intro h; rw [h]
/-- What the two names are to each other, and what is wanted. -/
structure Rel (a b : ByteArray) (rs ss : List Int) : Prop where
  l : name_Less.f a b = some (ltR rs ss)
  g : name_Less.f b a = some (ltR ss rs)
  e : a = b ↔ rs = ss
theorem less_end {a b : ByteArray} {rs ss : List Int} (R : Rel a b rs ss) (want : Bool) (h1 : ltR rs ss = want) (h2 : rs = ss → want = false) (h3 : rs ≠ ss → ltR ss rs = !want) :
    ((name_Less.f a b).bind fun t => (if (t == want) = true then ((name_Less.f b a).bind fun t2 => (if (t2 != want) = true then (if a.toList = b.toList then (some (!want)) else (some true)) else (if a.toList = b.toList then (some (!want)) else (some false)))) else (some false))) = some true := by
  rw [R.l, R.g, Option.bind_some, Option.bind_some, h1, if_pos (beq_self_eq_true _)]
  by_cases e : rs = ss
  · rw [if_pos (show a.toList = b.toList by rw [R.e.2 e]), if_pos (show a.toList = b.toList by rw [R.e.2 e]), h2 e]
    split <;> rfl
  · have ne : ¬ a.toList = b.toList := fun h => e (R.e.1 ((list_eq a b).1 h))
    rw [if_neg ne, if_neg ne, h3 e]
    cases want <;> rfl
theorem ltR_nil (y : List Int) : ltR y [] = false := by cases y <;> rfl
theorem less_loop {a b : ByteArray} {rs ss : List Int} (R : Rel a b rs ss) (zr : rs.length ≤ 32) (zs : ss.length ≤ 32) (m i : Nat) (hm : i + m = rs.length) (hi : i ≤ ss.length)
    (i1 : ltR rs ss = ltR (rs.drop i) (ss.drop i)) (i2 : ltR ss rs = ltR (ss.drop i) (rs.drop i)) (i3 : rs = ss ↔ rs.drop i = ss.drop i) :
    Ev (fun k => letterlocklaw1_NameLess.l0 k a b rs ss (decide ((rs.length : Int) < (ss.length : Int))) (i : Int)) true := by
  induction m generalizing i with
  | zero =>
    have e1 : rs.drop i = [] := List.drop_eq_nil_of_le (by omega)
    rw [e1] at i1 i2 i3
    refine Ev.step (fun _ => rfl) (Ev.neg (by omega) (Ev.step (fun k => (less_end R _ ?_ ?_ ?_)) (Ev.now _)))
    · rw [i1]
      by_cases h : i < ss.length
      · rw [decide_eq_true (by omega), List.drop_eq_getElem_cons h]; rfl
      · rw [decide_eq_false (by omega), List.drop_eq_nil_of_le (by omega)]; rfl
    · intro e
      rw [e]
      exact decide_eq_false (by omega)
    · intro e
      have h : i < ss.length := by
        by_cases h : i < ss.length
        · exact h
        · exact absurd (i3.2 (List.drop_eq_nil_of_le (by omega)).symm) e
      rw [i2, ltR_nil, decide_eq_true (by omega)]; rfl
  | succ m ih =>
    have hl : i < rs.length := by omega
    refine Ev.step (fun _ => rfl) (Ev.pos (by omega) ?_)
    rw [List.drop_eq_getElem_cons hl] at i1 i2 i3
    by_cases h : i < ss.length
    · rw [List.drop_eq_getElem_cons h] at i1 i2 i3
      have g1 := rd_get rs i hl
      have g2 := rd_get ss i h
      rw [decide_eq_true (by omega : (i : Int) < (ss.length : Int))]
      by_cases e : rs[i] = ss[i]
      · have hs : wrap64 ((i : Int) + 1) = ((i + 1 : Nat) : Int) := by rw [w64 (by omega) (by omega)]; omega
        refine Ev.step (fun k => show _ = letterlocklaw1_NameLess.l0 k a b rs ss (decide ((rs.length : Int) < (ss.length : Int))) ((i + 1 : Nat) : Int) from by
          simp only [letterlocklaw1_NameLess.j1]
          rw [if_pos trivial, if_pos (by omega), if_pos (by omega), if_pos (by omega), g1, g2, if_pos e, hs]) (ih (i + 1) (by omega) (by omega) ?_ ?_ ?_)
        · rw [i1]; show (if rs[i] = ss[i] then _ else _) = _; rw [if_pos e]
        · rw [i2]; show (if ss[i] = rs[i] then _ else _) = _; rw [if_pos e.symm]
        · rw [i3, e]; exact ⟨fun q => (List.cons.inj q).2, fun q => by rw [q]⟩
      · refine Ev.step (fun k => show _ = some true from by
          simp only [letterlocklaw1_NameLess.j1]
          rw [if_pos trivial, if_pos (by omega), if_pos (by omega), if_pos (by omega), g1, g2, if_neg e]
          refine less_end R _ ?_ ?_ ?_
          · rw [i1]; show (if rs[i] = ss[i] then _ else _) = _; rw [if_neg e]
          · intro q; exact absurd (List.cons.inj (i3.1 q)).1 e
          · intro _
            rw [i2]; show (if ss[i] = rs[i] then _ else _) = _
            rw [if_neg (fun q => e q.symm)]
            by_cases q : rs[i] < ss[i]
            · rw [decide_eq_true q, decide_eq_false (by omega)]; rfl
            · rw [decide_eq_false q, decide_eq_true (by omega)]; rfl) (Ev.now _)
    · rw [decide_eq_false (by omega : ¬ (i : Int) < (ss.length : Int))]
      rw [List.drop_eq_nil_of_le (by omega : ss.length ≤ i)] at i1 i2 i3
      refine Ev.step (fun k => (less_end R _ ?_ ?_ ?_)) (Ev.now _)
      · rw [i1, ltR_nil]; exact (decide_eq_false (by omega)).symm
      · intro e; exact absurd (i3.1 e) (List.cons_ne_nil _ _)
      · intro _; rw [i2, decide_eq_false (by omega)]; rfl
theorem NameLess (l0 l1 l2 : List Int) (g0 : l0.length ≤ 9223372036854775807 ∧ ∀ x ∈ l0, (Lit.int .i64 x).wf = true) (g1 : l1.length ≤ 9223372036854775807 ∧ ∀ x ∈ l1, (Lit.int .i64 x).wf = true)
    (g2 : l2.length ≤ 9223372036854775807 ∧ ∀ x ∈ l2, (Lit.int .i64 x).wf = true) (hb : l0.length + (l1.length + l2.length) ≤ 1048576) : ∃ k, letterlocklaw1_NameLess.f k l0 l1 l2 = some true := by
  refine Ev.rounds ?_
  have wf : ∀ l : List Int, (∀ x ∈ l, (Lit.int .i64 x).wf = true) → ∀ x ∈ ([] ++ l2) ++ l, (Lit.int .i64 x).wf = true := fun l h x hx => by
    rcases List.mem_append.1 hx with hx | hx
    · exact g2.2 x (by simpa using hx)
    · exact h x hx
  obtain ⟨rs, r1, r2, r3, r4⟩ := named_ev (([] ++ l2) ++ l0) (wf l0 g0.2) (by simp; omega)
  obtain ⟨ss, s1, s2, s3, s4⟩ := named_ev (([] ++ l2) ++ l1) (wf l1 g1.2) (by simp; omega)
  have zx := named_size (rs := rs) r3
  have zy := named_size (rs := ss) s3
  have ex := runes_val (ofBytes (makeD rs)) (by omega)
  rw [runesF_valid (by rw [bytes_ofBytes]; exact (runes_of_make fun r h => letter_valid (r1 r h)).2), bytes_ofBytes, (runes_of_make fun r h => letter_valid (r1 r h)).1] at ex
  have ey := runes_val (ofBytes (makeD ss)) (by omega)
  rw [runesF_valid (by rw [bytes_ofBytes]; exact (runes_of_make fun r h => letter_valid (s1 r h)).2), bytes_ofBytes, (runes_of_make fun r h => letter_valid (s1 r h)).1] at ey
  have R : Rel (ofBytes (makeD rs)) (ofBytes (makeD ss)) rs ss := ⟨by rw [less_val, bytes_ofBytes, bytes_ofBytes, make_lt rs ss r1 s1], by rw [less_val, bytes_ofBytes, bytes_ofBytes, make_lt ss rs s1 r1], make_inj r1 s1⟩
  unfold letterlocklaw1_NameLess.f
  refine Ev.put shown1_val (Ev.pos rfl (Ev.put rfl (Ev.pos (by simp; omega) (Ev.put rfl (Ev.pos (by simp; omega) (Ev.bind r4 (Ev.put rfl (Ev.pos (by simp; omega) (Ev.put rfl (Ev.pos (by simp; omega) (Ev.bind s4 (Ev.put ex (Ev.put ey ?_)))))))))))))
  exact less_loop R r3 s3 rs.length 0 (by omega) (by omega) rfl rfl Iff.rfl

end Go.Proofs.YtngdpoghfacokaaDoor.Pure
