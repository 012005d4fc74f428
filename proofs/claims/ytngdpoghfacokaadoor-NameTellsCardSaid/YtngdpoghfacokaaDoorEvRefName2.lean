/- What the printed words of the reference for names come to: names, paths, what is parted, folded, and ahead. -/
import Derived.Test.YtngdpoghfacokaaDoorEvRefName
namespace Go.Proofs.YtngdpoghfacokaaDoor.Ref
open Go.RowKit Go.Proofs.YtngdpoghfacokaaDoor Go.Proofs.YtngdpoghfacokaaDoor.PA Go.Proofs.YtngdpoghfacokaaDoorW.PrintWords Go.Proofs.YtngdpoghfacokaaDoorW.PrintLast
set_option linter.unusedVariables false

theorem bytes_ne {s : ByteArray} (h : bytes s ≠ []) : ¬ s.toList = ([] : List UInt8) := by rw [bytes_toList]; exact h
theorem first_bad {l : Bs} (hne : l ≠ []) (h : Bad l) : firstF l = (0, 0) := by unfold firstF; rw [if_neg hne, if_pos h]
theorem first_good {l : Bs} (hne : l ≠ []) (h : ¬ Bad l) : firstF l = (((Lib.decodeL l).1 : Int), ((Lib.decodeL l).2 : Int)) := by unfold firstF; rw [if_neg hne, if_neg h]
theorem extract_step (s : ByteArray) (w : Nat) : bytes (s.extract ((w : Int)).toNat s.size) = (bytes s).drop w := by rw [Int.toNat_natCast, bytes_from]

theorem refRunes_loop (l : Bs) : ∀ (s : ByteArray) (acc : List Int), bytes s = l → s.size ≤ 1000000 → acc.length + s.size ≤ 1000000 →
    Ev (fun k => letterlockref1_Runes.l0 k s acc) (if Lib.validD l = true then (acc ++ runesD l, 0) else ([], 2)) := by
  refine steps_ind (p := fun l => ∀ (s : ByteArray) (acc : List Int), bytes s = l → s.size ≤ 1000000 → acc.length + s.size ≤ 1000000 →
    Ev (fun k => letterlockref1_Runes.l0 k s acc) (if Lib.validD l = true then (acc ++ runesD l, 0) else ([], 2))) ?_ ?_ l
  · intro s acc hs hz ha
    refine ev_cast (Ev.step (fun _ => rfl) (Ev.pos (by rw [bytes_toList]; exact hs) (Ev.now _))) ?_
    rw [if_pos Lib.validD_nil, runesD_nil, List.append_nil]
  · intro l hne ih s acc hs hz ha
    have hw := Lib.decodeL_width l
    have hle := Lib.decodeL_le l hne
    have hsz : s.size = l.length := by rw [← bytes_length, hs]
    refine Ev.step (fun _ => rfl) (Ev.neg (bytes_ne (by rw [hs]; exact hne)) (Ev.bind (first_ev s) ?_))
    rw [hs]
    by_cases hb : Bad l
    · rw [first_bad hne hb]
      refine ev_cast (Ev.pos rfl (Ev.now _)) ?_
      rw [if_neg (by rw [valid_step hne, if_pos hb]; simp)]
    · rw [first_good hne hb]
      refine Ev.neg (by show ¬ ((Lib.decodeL l).2 : Int) = 0; omega) (Ev.pos (by omega) (Ev.pos (by show (0 : Int) ≤ ((Lib.decodeL l).2 : Int); omega) (Ev.pos (by show ((Lib.decodeL l).2 : Int) ≤ (s.size : Int); omega) ?_)))
      have hd := extract_step s (Lib.decodeL l).2
      rw [hs] at hd
      have hz2 : (s.extract (((Lib.decodeL l).2 : Int)).toNat s.size).size = l.length - (Lib.decodeL l).2 := by rw [← bytes_length, hd, List.length_drop]
      refine ev_cast (ih (s.extract (((Lib.decodeL l).2 : Int)).toNat s.size) (acc ++ [((Lib.decodeL l).1 : Int)]) hd (by omega) (by rw [List.length_append, List.length_singleton]; omega)) ?_
      rw [valid_step hne, if_neg hb, runesD_step hne, List.append_assoc]
      rfl
theorem refRunes_ev (s : ByteArray) (h : s.size ≤ 1000000) : Ev (fun k => letterlockref1_Runes.f k s) (runesF s) := by
  unfold letterlockref1_Runes.f
  refine ev_cast (refRunes_loop (bytes s) s [] rfl h (by simpa using h)) ?_
  unfold runesF
  cases Lib.validD (bytes s) <;> rfl
theorem in_ref (r a b : Int) : letterlockref1_in.f r a b = some (decide (a ≤ r ∧ r ≤ b)) := by
  unfold letterlockref1_in.f
  by_cases h : r ≥ a
  · rw [if_pos h]
    by_cases h2 : r ≤ b
    · rw [decide_eq_true h2, decide_eq_true ⟨h, h2⟩]
    · rw [decide_eq_false h2, decide_eq_false (fun e => h2 e.2)]
  · rw [if_neg h, decide_eq_false (fun e => h e.1)]
theorem or_ite (a b : Bool) : (if a = true then some true else some b) = some (a || b) := by cases a <;> rfl
theorem or_ite2 (p : Prop) [Decidable p] (b : Bool) : (if p then some true else some b) = some (decide p || b) := by
  by_cases h : p
  · rw [if_pos h, decide_eq_true h]; rfl
  · rw [if_neg h, decide_eq_false h]; rfl
theorem letter_ref (r : Int) : letterlockref1_letter.f r = some (letterZ r) := by
  unfold letterlockref1_letter.f letterZ
  simp only [in_ref, Option.bind_some, or_ite2, Bool.decide_eq_true, Bool.or_assoc]
theorem great_ref (r : Int) : letterlockref1_great.f r = some (greatZ r) := by
  unfold letterlockref1_great.f greatZ
  simp only [in_ref, Option.bind_some, or_ite2, Bool.decide_eq_true, Bool.or_assoc]
theorem refRight_loop (l : List Int) (hl : l.length ≤ 1000000) (m i : Nat) (hm : i + m = l.length) : Ev (fun k => letterlockref1_Right.l0 k l (i : Int)) ((l.drop i).all letterZ) := by
  induction m generalizing i with
  | zero =>
    rw [List.drop_eq_nil_of_le (by omega)]
    exact Ev.step (fun _ => rfl) (Ev.neg (by omega) (Ev.now _))
  | succ m ih =>
    have hi : i < l.length := by omega
    have ih := ih (i + 1) (by omega)
    rw [List.drop_eq_getElem_cons hi, List.all_cons]
    refine Ev.step (fun _ => rfl) (Ev.pos (by omega) (Ev.pos (by omega) ?_))
    rw [rd_get l i hi]
    refine Ev.put (letter_ref l[i]) ?_
    cases letterZ l[i] with
    | false => exact Ev.neg (by simp) (Ev.now _)
    | true =>
      refine Ev.pos rfl ?_
      rw [w64 (by omega) (by omega), Bool.true_and]
      exact ih
theorem refRight_ev (s : ByteArray) (h : s.size ≤ 1000000) : Ev (fun k => letterlockref1_Right.f k s) (rightN (bytes s)) := by
  have hl := runesD_len (bytes s)
  rw [bytes_length] at hl
  unfold letterlockref1_Right.f
  refine Ev.bind (refRunes_ev s h) ?_
  unfold rightN
  cases hv : Lib.validD (bytes s) with
  | false =>
    rw [runesF_bad hv]
    exact Ev.neg (by simp) (Ev.step (fun _ => rfl) (Ev.now _))
  | true =>
    rw [runesF_valid hv]
    refine Ev.pos rfl ?_
    by_cases h1 : ((runesD (bytes s)).length : Int) < 1
    · refine ev_cast (Ev.pos h1 (Ev.step (fun _ => rfl) (Ev.now _))) ?_
      rw [decide_eq_false (by omega), Bool.and_false]
    · refine Ev.neg h1 ?_
      by_cases h2 : ((runesD (bytes s)).length : Int) > 32
      · show Ev (fun k => letterlockref1_Right.j0 k (runesD (bytes s)) (decide (((runesD (bytes s)).length : Int) > 32))) _
        rw [decide_eq_true h2]
        refine ev_cast (Ev.step (fun _ => rfl) (Ev.now _)) ?_
        rw [decide_eq_false (by omega), Bool.and_false]
      · show Ev (fun k => letterlockref1_Right.j0 k (runesD (bytes s)) (decide (((runesD (bytes s)).length : Int) > 32))) _
        rw [decide_eq_false h2]
        refine Ev.step (fun _ => rfl) (ev_cast (refRight_loop (runesD (bytes s)) (by omega) (runesD (bytes s)).length 0 (by omega)) ?_)
        rw [decide_eq_true ⟨by omega, by omega⟩, Bool.and_true, Bool.true_and]; rfl
theorem refPath_ev (a b : ByteArray) (ha : a.size ≤ 1000000) (hb : b.size ≤ 1000000) : Ev (fun k => letterlockref1_Path.f k a b) (pathF a b) := by
  unfold letterlockref1_Path.f pathF
  refine Ev.bind (refRight_ev a ha) ?_
  cases rightN (bytes a) with
  | false => exact ev_cast (Ev.neg (by simp) (Ev.now _)) (by rw [if_neg (by simp)])
  | true =>
    refine Ev.pos rfl (Ev.bind (refRight_ev b hb) ?_)
    cases rightN (bytes b) with
    | false => exact ev_cast (Ev.neg (by simp) (Ev.now _)) (by rw [if_neg (by simp)])
    | true =>
      have e1 : (⟨#[47]⟩ : ByteArray).size = 1 := rfl
      exact ev_cast (Ev.pos rfl (Ev.pos (by omega) (Ev.pos (by rw [ByteArray.size_append, e1]; omega) (Ev.now _)))) (by rw [if_pos ⟨rfl, rfl⟩])
theorem refSplit_loop (s : ByteArray) (h : s.size ≤ 1000000) (m i : Nat) (hm : i + m = s.size) (hn : (47 : UInt8) ∉ (bytes s).take i) : Ev (fun k => letterlockref1_Split.l0 k s (i : Int)) (splitF s) := by
  induction m generalizing i with
  | zero =>
    rw [List.take_of_length_le (by rw [bytes_length]; omega)] at hn
    rw [split_bad (fun a b e _ _ => hn (by rw [e]; simp))]
    exact Ev.step (fun _ => rfl) (Ev.neg (by omega) (Ev.now _))
  | succ m ih =>
    have hi : i < (bytes s).length := by rw [bytes_length]; omega
    refine Ev.step (fun _ => rfl) (Ev.pos (by omega) (Ev.pos (by omega) ?_))
    rw [bt_bytes s i (by omega)]
    by_cases h47 : (bytes s)[i] = 47
    · refine Ev.pos (by rw [h47]; rfl) (Ev.pos (by omega) ?_)
      rw [w64 (n := (i : Int) + 1) (by omega) (by omega), show (i : Int) + 1 = ((i + 1 : Nat) : Int) from by omega]
      refine Ev.pos (by omega) (Ev.pos (by omega) ?_)
      simp only [Int.toNat_natCast]
      have hl : bytes s = (bytes s).take i ++ 47 :: (bytes s).drop (i + 1) := by
        rw [← h47, ← List.drop_eq_getElem_cons hi, List.take_append_drop]
      have hcut : Lib.cut (bytes s) [47] = ((bytes s).take i, (bytes s).drop (i + 1), true) := by
        have := cut_at (a := (bytes s).take i) (b := (bytes s).drop (i + 1)) hn
        rw [← hl] at this; exact this
      have b1 : s.extract 0 i = ofBytes ((bytes s).take i) := bs_inj (by rw [bytes_to, bytes_ofBytes])
      have b2 : s.extract (i + 1) s.size = ofBytes ((bytes s).drop (i + 1)) := bs_inj (by rw [bytes_from, bytes_ofBytes])
      unfold splitF
      rw [hcut, b1, b2]
      have r1 := refRight_ev (ofBytes ((bytes s).take i)) (by rw [size_ofBytes, List.length_take]; omega)
      have r2 := refRight_ev (ofBytes ((bytes s).drop (i + 1))) (by rw [size_ofBytes, List.length_drop, bytes_length]; omega)
      rw [bytes_ofBytes] at r1 r2
      refine Ev.bind r1 ?_
      cases rightN ((bytes s).take i) with
      | false => exact ev_cast (Ev.neg (by simp) (Ev.now _)) (by rw [if_neg (by simp)])
      | true =>
        refine Ev.pos rfl (Ev.bind r2 ?_)
        cases rightN ((bytes s).drop (i + 1)) with
        | false => exact ev_cast (Ev.neg (by simp) (Ev.now _)) (by rw [if_neg (by simp)])
        | true => exact ev_cast (Ev.pos rfl (Ev.now _)) (by rw [if_pos ⟨rfl, rfl⟩])
    · refine Ev.neg (fun e => h47 (UInt8.toNat_inj.1 (by show _ = 47; omega))) ?_
      rw [w64 (by omega) (by omega)]
      refine ih (i + 1) (by omega) ?_
      rw [List.take_succ_eq_append_getElem hi]
      intro hm2
      rcases List.mem_append.1 hm2 with h2 | h2
      · exact hn h2
      · exact h47 (List.mem_singleton.1 h2).symm
theorem refSplit_ev (s : ByteArray) (h : s.size ≤ 1000000) : Ev (fun k => letterlockref1_Split.f k s) (splitF s) := by
  unfold letterlockref1_Split.f
  exact refSplit_loop s h s.size 0 (by omega) (by simp)
theorem refFold_loop (l : Bs) : ∀ (s acc : ByteArray), bytes s = l → s.size ≤ 1000000 → acc.size + s.size ≤ 1000000 →
    Ev (fun k => letterlockref1_Fold.l0 k s acc) (acc ++ ofBytes (foldD l)) := by
  refine steps_ind (p := fun l => ∀ (s acc : ByteArray), bytes s = l → s.size ≤ 1000000 → acc.size + s.size ≤ 1000000 →
    Ev (fun k => letterlockref1_Fold.l0 k s acc) (acc ++ ofBytes (foldD l))) ?_ ?_ l
  · intro s acc hs hz ha
    refine ev_cast (Ev.step (fun _ => rfl) (Ev.pos (by rw [bytes_toList]; exact hs) (Ev.now _))) ?_
    refine bs_inj ?_
    rw [bytes_append, bytes_ofBytes]
    show bytes acc = bytes acc ++ []
    rw [List.append_nil]
  · intro l hne ih s acc hs hz ha
    have hw := Lib.decodeL_width l
    have hle := Lib.decodeL_le l hne
    have hsz : s.size = l.length := by rw [← bytes_length, hs]
    have hd := extract_step s (Lib.decodeL l).2
    rw [hs] at hd
    have hz2 : (s.extract (((Lib.decodeL l).2 : Int)).toNat s.size).size = l.length - (Lib.decodeL l).2 := by rw [← bytes_length, hd, List.length_drop]
    have hfs : foldD l = Lib.encodeRune (if Bad l then 45 else foldR ((Lib.decodeL l).1 : Int)) ++ foldD (l.drop (Lib.decodeL l).2) := by
      unfold foldD
      rw [foldRs_step hne, makeD_cons]
    refine Ev.step (fun _ => rfl) (Ev.neg (bytes_ne (by rw [hs]; exact hne)) (Ev.bind (first_ev s) ?_))
    rw [hs]
    by_cases hb : Bad l
    · rw [first_bad hne hb]
      have h1 := hb.2
      rw [h1] at hd hz2 hfs
      refine Ev.pos rfl (Ev.pos (by omega) (Ev.pos (by omega) ?_))
      have e45 : (⟨#[45]⟩ : ByteArray) = ofBytes (Lib.encodeRune 45) := by decide
      refine ev_cast (ih (s.extract 1 s.size) (acc ++ ⟨#[45]⟩) (by rw [h1]; exact hd) (by have : (s.extract 1 s.size).size = l.length - 1 := hz2; omega) (by
        have : (s.extract 1 s.size).size = l.length - 1 := hz2
        rw [ByteArray.size_append, show (⟨#[45]⟩ : ByteArray).size = 1 from rfl]; omega)) ?_
      rw [hfs, if_pos hb, ofBytes_append, e45, h1]
      exact bs_inj (by rw [bytes_append, bytes_append, bytes_append, bytes_append, List.append_assoc])
    · rw [first_good hne hb]
      rw [if_neg hb] at hfs
      have hv := decode_valid hne hb
      have hlen : (Lib.encodeRune ((Lib.decodeL l).1 : Int)).length = (Lib.decodeL l).2 := by rw [Lib.encode_decode l hne hb, List.length_take]; omega
      have hfl := foldR_len ((Lib.decodeL l).1 : Int)
      have hass : ∀ x : Bs, (acc ++ ofBytes x) ++ ofBytes (foldD (l.drop (Lib.decodeL l).2)) = acc ++ ofBytes (x ++ foldD (l.drop (Lib.decodeL l).2)) := fun x => bs_inj (by
        rw [bytes_append, bytes_append, bytes_append, bytes_ofBytes, bytes_ofBytes, bytes_ofBytes, List.append_assoc])
      refine Ev.neg (by show ¬ ((Lib.decodeL l).2 : Int) = 0; omega) (Ev.put (great_ref _) ?_)
      cases hg : greatZ ((Lib.decodeL l).1 : Int) with
      | true =>
        have hf : foldR ((Lib.decodeL l).1 : Int) = ((Lib.decodeL l).1 : Int) + 32 := by unfold foldR; rw [if_pos hg]
        rw [hf] at hfs hfl
        have hv2 : ValidR (((Lib.decodeL l).1 : Int) + 32) := by rw [← hf]; exact foldR_valid hv
        have hw32 : wrap32 (((Lib.decodeL l).1 : Int) + 32) = ((Lib.decodeL l).1 : Int) + 32 := w32 (by unfold ValidR at hv; omega) (by unfold ValidR at hv; omega)
        refine Ev.pos rfl ?_
        rw [hw32]
        refine Ev.put (one_ref hv2) (Ev.pos (by rw [size_ofBytes]; omega) (Ev.pos (by show (0 : Int) ≤ ((Lib.decodeL l).2 : Int); omega) (Ev.pos (by show ((Lib.decodeL l).2 : Int) ≤ (s.size : Int); omega) ?_)))
        refine ev_cast (ih (s.extract (((Lib.decodeL l).2 : Int)).toNat s.size) (acc ++ ofBytes (Lib.encodeRune (((Lib.decodeL l).1 : Int) + 32))) hd (by omega) (by rw [ByteArray.size_append, size_ofBytes]; omega)) ?_
        rw [hfs, hass]
      | false =>
        have hf : foldR ((Lib.decodeL l).1 : Int) = ((Lib.decodeL l).1 : Int) := by unfold foldR; rw [if_neg (by rw [hg]; simp)]
        rw [hf] at hfs
        have hx : s.extract 0 (((Lib.decodeL l).2 : Int)).toNat = ofBytes (Lib.encodeRune ((Lib.decodeL l).1 : Int)) := bs_inj (by
          rw [Int.toNat_natCast, bytes_to, bytes_ofBytes, hs, Lib.encode_decode l hne hb])
        refine Ev.neg (by simp) (Ev.pos (by show (0 : Int) ≤ ((Lib.decodeL l).2 : Int); omega) (Ev.pos (by show ((Lib.decodeL l).2 : Int) ≤ (s.size : Int); omega) ?_))
        show Ev (fun k => if acc.size + (s.extract 0 (((Lib.decodeL l).2 : Int)).toNat).size ≤ 9223372036854775807 then (letterlockref1_Fold.l0 k (s.extract (((Lib.decodeL l).2 : Int)).toNat s.size) (acc ++ (s.extract 0 (((Lib.decodeL l).2 : Int)).toNat))) else none) _
        rw [hx]
        refine Ev.pos (by rw [size_ofBytes]; omega) ?_
        refine ev_cast (ih (s.extract (((Lib.decodeL l).2 : Int)).toNat s.size) (acc ++ ofBytes (Lib.encodeRune ((Lib.decodeL l).1 : Int))) hd (by omega) (by rw [ByteArray.size_append, size_ofBytes]; omega)) ?_
        rw [hfs, hass]
theorem refFold_ev (s : ByteArray) (h : s.size ≤ 1000000) : Ev (fun k => letterlockref1_Fold.f k s) (foldF s) := by
  unfold letterlockref1_Fold.f
  refine ev_cast (refFold_loop (bytes s) s ⟨#[]⟩ rfl h (by show 0 + s.size ≤ 1000000; omega)) ?_
  exact bs_inj (by rw [bytes_append, bytes_foldF, bytes_ofBytes]; rfl)
theorem refLess_loop (a b : ByteArray) (ha : a.size ≤ 1000000) (hb : b.size ≤ 1000000) (m i : Nat) (hm : i + m = a.size) (hi : i ≤ b.size) (hp : (bytes a).take i = (bytes b).take i) :
    Ev (fun k => letterlockref1_Less.l0 k a b (i : Int)) (decide ((bytes a).drop i < (bytes b).drop i)) := by
  induction m generalizing i with
  | zero =>
    have e1 : (bytes a).drop i = [] := List.drop_eq_nil_of_le (by rw [bytes_length]; omega)
    refine Ev.step (fun _ => rfl) (Ev.neg (by omega) (Ev.step (fun _ => rfl) ?_))
    refine ev_cast (Ev.now _) ?_
    rw [e1]
    by_cases h : i < b.size
    · rw [decide_eq_true (by omega), List.drop_eq_getElem_cons (by rw [bytes_length]; exact h)]
      exact (decide_eq_true (List.nil_lt_cons _ _)).symm
    · rw [decide_eq_false (by omega), List.drop_eq_nil_of_le (by rw [bytes_length]; omega)]
      exact (decide_eq_false (List.lt_irrefl _)).symm
  | succ m ih =>
    have hla : i < (bytes a).length := by rw [bytes_length]; omega
    refine Ev.step (fun _ => rfl) (Ev.pos (by omega) ?_)
    by_cases h : i < b.size
    · have hlb : i < (bytes b).length := by rw [bytes_length]; exact h
      rw [decide_eq_true (by omega : (i : Int) < (b.size : Int)), List.drop_eq_getElem_cons hla, List.drop_eq_getElem_cons hlb]
      refine Ev.step (fun _ => rfl) (Ev.pos (by omega) (Ev.pos (by omega) ?_))
      rw [bt_bytes a i (by omega), bt_bytes b i h]
      by_cases he : (bytes a)[i] = (bytes b)[i]
      · refine Ev.pos (by rw [he]) ?_
        rw [w64 (by omega) (by omega)]
        refine ev_cast (ih (i + 1) (by omega) (by omega) (by rw [List.take_succ_eq_append_getElem hla, List.take_succ_eq_append_getElem hlb, hp, he])) ?_
        rw [he]
        exact decide_eq_decide.2 ⟨fun h => List.cons_lt_cons_iff.2 (Or.inr ⟨rfl, h⟩), fun h => (List.cons_lt_cons_iff.1 h).elim (fun e => absurd e (UInt8.lt_irrefl _)) And.right⟩
      · have hne : ¬ (((bytes a)[i]).toNat : Int) = (((bytes b)[i]).toNat : Int) := fun e => he (UInt8.toNat_inj.1 (by omega))
        refine Ev.neg hne (ev_cast (Ev.now _) ?_)
        by_cases hl : (bytes a)[i] < (bytes b)[i]
        · rw [decide_eq_true (by have := UInt8.lt_iff_toNat_lt.1 hl; omega), decide_eq_true (List.cons_lt_cons_iff.2 (Or.inl hl))]
        · rw [decide_eq_false (fun e => hl (UInt8.lt_iff_toNat_lt.2 (by omega))), decide_eq_false (fun e => by
            rcases List.cons_lt_cons_iff.1 e with e | e
            · exact hl e
            · exact he e.1)]
    · rw [decide_eq_false (by omega : ¬ (i : Int) < (b.size : Int)), List.drop_eq_nil_of_le (by rw [bytes_length]; omega : (bytes b).length ≤ i)]
      refine Ev.step (fun _ => rfl) (ev_cast (Ev.now _) ?_)
      rw [decide_eq_false (by omega)]
      exact (decide_eq_false (List.not_lt_nil _)).symm
theorem refLess_ev (a b : ByteArray) (ha : a.size ≤ 1000000) (hb : b.size ≤ 1000000) : Ev (fun k => letterlockref1_Less.f k a b) (decide (bytes a < bytes b)) := by
  unfold letterlockref1_Less.f
  exact ev_cast (refLess_loop a b ha hb a.size 0 (by omega) (by omega) (by simp)) (by simp)

end Go.Proofs.YtngdpoghfacokaaDoor.Ref
