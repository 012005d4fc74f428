/- What the printed words of the reference for what can be told come to: right, parts, had, told, put in order. -/
import Derived.Test.YtnieihhnchefdaaEv4T
import Derived.Test.YtnieihhnchefdaaLess
import Derived.Test.YtnieihhnchefdaaHubTT
namespace Go.Proofs.Ytnieihhnchefdaa.Ref
open Go.RowKit Go.Proofs.Ytnieihhnchefdaa Go.Proofs.Ytnieihhnchefdaa.PA Go.Proofs.YtnieihhnchefdaaW.PrintWords Go.Proofs.YtnieihhnchefdaaW.PrintLast
set_option linter.unusedVariables false
set_option linter.unusedSimpArgs false

theorem rdOf_at {α : Type} (d : α) (l : List α) (i : Nat) (h : i < l.length) : rdOf d l (i : Int) = l[i] := by
  unfold rdOf
  rw [Int.toNat_natCast, List.getD_eq_getElem?_getD, List.getElem?_eq_getElem h]; rfl
theorem bt_code (t : T) : bt (tm t) 0 = (t.code.toNat : Int) := by
  have h := bt_bytes (tm t) 0 (by rw [size_tm]; exact enc_pos t)
  obtain ⟨l, hl⟩ := enc_code t
  simp only [bytes_tm, hl] at h
  exact h
theorem tm_pos (t : T) : (0 : Int) < ((tm t).size : Int) := by have := enc_pos t; rw [size_tm]; omega
theorem toList_eq (a b : ByteArray) : a.toList = b.toList ↔ a = b := ⟨fun h => bs_inj (by rwa [bytes_toList, bytes_toList] at h), fun h => by rw [h]⟩

/-! ### right -/
theorem right4_loop (l : List ByteArray) (hl : l.length ≤ 9000000000000000000) (m i : Nat) (hm : i + m = l.length) :
    Ev (fun k => letterlockref4_right.l0 k l (i : Int)) (if (l.drop i).all right = true then (if 200 < l.length then 10 else 0) else 1) := by
  induction m generalizing i with
  | zero =>
    rw [List.drop_eq_nil_of_le (by omega)]
    refine Ev.step (fun _ => rfl) (Ev.neg (by omega) ?_)
    by_cases h : 200 < l.length
    · exact ev_cast (Ev.pos (by omega) (Ev.now _)) (by rw [if_pos h]; rfl)
    · exact ev_cast (Ev.neg (by omega) (Ev.now _)) (by rw [if_neg h]; rfl)
  | succ m ih =>
    have hi : i < l.length := by omega
    have ih := ih (i + 1) (by omega)
    rw [List.drop_eq_getElem_cons hi, List.all_cons]
    refine Ev.step (fun _ => rfl) (Ev.pos (by omega) (Ev.pos (by omega) ?_))
    rw [rdOf_at _ l i hi, w64 (n := (i : Int) + 1) (by omega) (by omega)]
    refine Ev.bind (refRight_ev l[i]) ?_
    cases right l[i] with
    | false => exact Ev.neg (by simp) (Ev.now _)
    | true => exact Ev.pos rfl ih
theorem right4_ev (l : List ByteArray) (hl : l.length ≤ 9000000000000000000) : Ev (fun k => letterlockref4_right.f k l) (if l.all right = true then (if 200 < l.length then 10 else 0) else 1) :=
  right4_loop l hl l.length 0 (by omega)

/-! ### has -/
theorem has4_loop (l : List ByteArray) (s : ByteArray) (hl : l.length ≤ 9000000000000000000) (m i : Nat) (hm : i + m = l.length) : Ev (fun k => letterlockref4_has.l0 k l s (i : Int)) ((l.drop i).any fun x => decide (x.toList = s.toList)) := by
  induction m generalizing i with
  | zero =>
    rw [List.drop_eq_nil_of_le (by omega)]
    exact Ev.step (fun _ => rfl) (Ev.neg (by omega) (Ev.now _))
  | succ m ih =>
    have hi : i < l.length := by omega
    have ih := ih (i + 1) (by omega)
    rw [List.drop_eq_getElem_cons hi, List.any_cons]
    refine Ev.step (fun _ => rfl) (Ev.pos (by omega) (Ev.pos (by omega) ?_))
    rw [rdOf_at _ l i hi, w64 (n := (i : Int) + 1) (by omega) (by omega)]
    by_cases he : l[i].toList = s.toList
    · exact ev_cast (Ev.pos he (Ev.now _)) (by rw [decide_eq_true he, Bool.true_or])
    · exact ev_cast (Ev.neg he ih) (by rw [decide_eq_false he, Bool.false_or])
theorem has_tm {S : List T} (hS : ∀ t ∈ S, Wf t) (hl : S.length ≤ 9000000) {t : T} (ht : Wf t) : Ev (fun k => letterlockref4_has.f k (S.map tm) (tm t)) (S.contains t) := by
  refine ev_cast (has4_loop (S.map tm) (tm t) (by rw [List.length_map]; omega) (S.map tm).length 0 (by omega)) ?_
  rw [List.drop_zero]
  by_cases h : t ∈ S
  · rw [List.contains_iff_mem.2 h]
    exact List.any_eq_true.2 ⟨tm t, List.mem_map_of_mem h, decide_eq_true rfl⟩
  · rw [contains_false h, List.any_eq_false]
    intro x hx
    obtain ⟨u, hu, rfl⟩ := List.mem_map.1 hx
    rw [decide_eq_false]; · simp
    intro e
    refine h ?_
    rw [← wf_inj (hS u hu) ht ((toList_eq _ _).1 e)]; exact hu

/-! ### Parts -/
theorem size_enc {t : T} (h : ok 40 t) (r : Bs) : sizeF 40 (enc t ++ r) = ((enc t).length : Int) := by unfold sizeF; rw [parse_enc 40 t r h]
theorem many_code (t : T) : manyC t.code = (t.parts.length : Int) := by
  cases t with
  | atom n => rfl
  | text s => rfl
  | one k a => cases k <;> rfl
  | two k a b => cases k <;> rfl
theorem parts4_loop (t : T) (hw : Wf t) (m i : Nat) (hm : i + m = t.parts.length) (rest : ByteArray) (hz : rest.size ≤ 4000) (hr : i < t.parts.length → bytes rest = ((t.parts.drop i).map enc).flatten) :
    Ev (fun k => letterlockref3_Parts.l0 k (tm t) ((t.parts.take i).map tm) rest (i : Int)) (t.parts.map tm, 0) := by
  have hp2 : t.parts.length ≤ 2 := by cases t <;> simp [T.parts]
  induction m generalizing i rest with
  | zero =>
    refine Ev.step (fun _ => rfl) (Ev.pos (tm_pos t) ?_)
    rw [bt_code]
    refine Ev.bind (many_ev t.code) (ev_cast (Ev.neg (by rw [many_code]; omega) (Ev.now _)) ?_)
    rw [List.take_of_length_le (by omega)]
  | succ m ih =>
    have hi : i < t.parts.length := by omega
    have hr := hr hi
    rw [List.drop_eq_getElem_cons hi, List.map_cons, List.flatten_cons] at hr
    have hwa : Wf t.parts[i] := wf_parts hw (List.getElem_mem hi)
    have hsz := told 40 (by omega) rest hz
    rw [hr, size_enc hwa.1] at hsz
    have hlen := congrArg List.length hr
    rw [bytes_length, List.length_append] at hlen
    refine Ev.step (fun _ => rfl) (Ev.pos (tm_pos t) ?_)
    rw [bt_code]
    refine Ev.bind (many_ev t.code) (Ev.pos (by rw [many_code]; omega) (Ev.bind hsz (Ev.pos (by omega) (Ev.pos (by omega) (Ev.pos (by rw [List.length_map, List.length_take]; omega) ?_)))))
    rw [Int.toNat_natCast, w64 (n := (i : Int) + 1) (by omega) (by omega)]
    have e1 : rest.extract 0 (enc t.parts[i]).length = tm t.parts[i] := bs_inj (by rw [bytes_to, hr, bytes_tm, List.take_left])
    have e2 : bytes (rest.extract (enc t.parts[i]).length rest.size) = ((t.parts.drop (i + 1)).map enc).flatten := by rw [bytes_from, hr, List.drop_left]
    have e3 : (t.parts.take i).map tm ++ [tm t.parts[i]] = (t.parts.take (i + 1)).map tm := by rw [List.take_succ_eq_append_getElem hi, List.map_append]; rfl
    rw [e1, e3]
    refine ih (i + 1) (by omega) _ ?_ (fun _ => e2)
    have := congrArg List.length e2
    rw [bytes_length] at this
    rw [← bytes_length, bytes_from, List.length_drop, bytes_length]
    omega
theorem parts4_ev {t : T} (h : Wf t) : Ev (fun k => letterlockref3_Parts.f k (tm t)) (t.parts.map tm, 0) := by
  unfold letterlockref3_Parts.f
  have hp := enc_pos t
  refine Ev.bind (refRight_ev (tm t)) ?_
  rw [right_tm h]
  refine Ev.pos rfl (Ev.pos (by rw [size_tm]; omega) ?_)
  refine parts4_loop t h t.parts.length 0 (by omega) _ ?_ ?_
  · rw [← bytes_length, bytes_from, List.length_drop, bytes_tm]; have := h.2; omega
  · intro hi
    rw [bytes_from, bytes_tm, List.drop_zero]
    cases t with
    | atom n => exact absurd hi (by simp [T.parts])
    | text s => exact absurd hi (by simp [T.parts])
    | one k a => simp [enc, T.parts]
    | two k a b => simp [enc, T.parts]

/-! ### together -/
theorem tog4_loop (S : List T) (ps : List T) (hl : ps.length ≤ 100) (hp : ∀ a ∈ ps, Ev (fun k => letterlockref4_together.f k (S.map tm) (tm a)) (tog S a)) (m i : Nat) (hm : i + m = ps.length) :
    Ev (fun k => letterlockref4_together.l0 k (S.map tm) (ps.map tm) (i : Int)) ((ps.drop i).all (tog S)) := by
  induction m generalizing i with
  | zero =>
    rw [List.drop_eq_nil_of_le (by omega)]
    exact Ev.step (fun _ => rfl) (Ev.neg (by rw [List.length_map]; omega) (Ev.now _))
  | succ m ih =>
    have hi : i < ps.length := by omega
    have ih := ih (i + 1) (by omega)
    rw [List.drop_eq_getElem_cons hi, List.all_cons]
    refine Ev.step (fun _ => rfl) (Ev.pos (by rw [List.length_map]; omega) (Ev.pos (by omega) ?_))
    rw [rdOf_at _ _ i (by rw [List.length_map]; exact hi), List.getElem_map, w64 (n := (i : Int) + 1) (by omega) (by omega)]
    refine Ev.bind (hp _ (List.getElem_mem hi)) ?_
    cases tog S ps[i] with
    | false => exact Ev.neg (by simp) (Ev.now _)
    | true => exact Ev.pos rfl ih
theorem tog_node (S : List T) (t : T) (h97 : t.code.toNat ≠ 97) (h116 : t.code.toNat ≠ 116) : tog S t = (S.contains t || t.parts.all (tog S)) := by
  cases t with
  | atom n => exact absurd rfl h97
  | text s => exact absurd rfl h116
  | one k a => simp [tog, T.parts]
  | two k a b => simp [tog, T.parts]
theorem tog4_step {S : List T} (hS : ∀ t ∈ S, Wf t) (hl : S.length ≤ 9000000) (t : T) (hw : Wf t) (hp : ∀ a ∈ t.parts, Ev (fun k => letterlockref4_together.f k (S.map tm) (tm a)) (tog S a)) :
    Ev (fun k => letterlockref4_together.f k (S.map tm) (tm t)) (tog S t) := by
  refine Ev.step (fun _ => rfl) (Ev.bind (has_tm hS hl hw) ?_)
  cases hc : S.contains t with
  | true =>
    refine ev_cast (Ev.pos rfl (Ev.step (fun _ => rfl) (Ev.now _))) (tog_of_mem (List.contains_iff_mem.1 hc)).symm
  | false =>
    refine Ev.neg (by simp) (Ev.pos (tm_pos t) ?_)
    rw [bt_code]
    by_cases h116 : t.code.toNat = 116
    · rw [show ((t.code.toNat : Int) == 116) = true from beq_iff_eq.mpr (by omega)]
      refine ev_cast (Ev.step (fun _ => rfl) (Ev.now _)) ?_
      cases t with
      | text s => rfl
      | atom n => exact absurd h116 (by show ¬ 97 = 116; omega)
      | one k a => cases k <;> exact absurd h116 (by simp [T.code, K1.code, K2.code])
      | two k a b => cases k <;> exact absurd h116 (by simp [T.code, K1.code, K2.code])
    · rw [show ((t.code.toNat : Int) == 116) = false from beq_eq_false_iff_ne.mpr (by omega)]
      refine Ev.step (fun _ => rfl) (Ev.pos (tm_pos t) ?_)
      rw [bt_code]
      by_cases h97 : t.code.toNat = 97
      · refine ev_cast (Ev.pos (by omega) (Ev.now _)) ?_
        cases t with
        | atom n => exact hc.symm
        | text s => exact absurd h97 (by show ¬ 116 = 97; omega)
        | one k a => cases k <;> exact absurd h97 (by simp [T.code, K1.code, K2.code])
        | two k a b => cases k <;> exact absurd h97 (by simp [T.code, K1.code, K2.code])
      · refine Ev.neg (by omega) (Ev.bind (parts4_ev hw) ?_)
        refine ev_cast (tog4_loop S t.parts (by cases t <;> simp [T.parts]) hp t.parts.length 0 (by omega)) ?_
        rw [tog_node S t h97 h116, hc, Bool.false_or, List.drop_zero]
theorem tog4_ev {S : List T} (hS : ∀ t ∈ S, Wf t) (hl : S.length ≤ 9000000) (t : T) (hw : Wf t) : Ev (fun k => letterlockref4_together.f k (S.map tm) (tm t)) (tog S t) := by
  induction t with
  | atom n => exact tog4_step hS hl _ hw (fun a ha => absurd ha (by simp [T.parts]))
  | text s => exact tog4_step hS hl _ hw (fun a ha => absurd ha (by simp [T.parts]))
  | one k a ih => exact tog4_step hS hl _ hw (fun x hx => by
      have hx : x = a := by simpa [T.parts] using hx
      subst hx; exact ih (wf_one hw))
  | two k a b iha ihb => exact tog4_step hS hl _ hw (fun x hx => by
      have hx : x = a ∨ x = b := by simpa [T.parts] using hx
      rcases hx with rfl | rfl
      · exact iha (wf_two hw).1
      · exact ihb (wf_two hw).2)

/-! ### gives -/
theorem gives4_ev {S : List T} (hS : ∀ t ∈ S, Wf t) (hl : S.length ≤ 9000000) {t : T} (hw : Wf t) : Ev (fun k => letterlockref4_gives.f k (S.map tm) (tm t)) ((gives S t).map tm) := by
  unfold letterlockref4_gives.f
  refine Ev.bind (parts4_ev hw) (Ev.pos (tm_pos t) ?_)
  rw [bt_code]
  cases t with
  | atom n =>
    show Ev (fun k => if (97 : Int) = 112 then _ else if (97 : Int) = 103 then _ else if (97 : Int) = 115 then _ else if (97 : Int) = 98 then _ else _) _
    exact Ev.neg (by decide) (Ev.neg (by decide) (Ev.neg (by decide) (Ev.neg (by decide) (Ev.now _))))
  | text s =>
    show Ev (fun k => if (116 : Int) = 112 then _ else if (116 : Int) = 103 then _ else if (116 : Int) = 115 then _ else if (116 : Int) = 98 then _ else _) _
    exact Ev.neg (by decide) (Ev.neg (by decide) (Ev.neg (by decide) (Ev.neg (by decide) (Ev.now _))))
  | one k a =>
    have e : ((T.one k a).code.toNat : Int) = if k = .h then 104 else 117 := by cases k <;> rfl
    rw [e]
    cases k with
    | h => exact Ev.neg (by decide) (Ev.neg (by decide) (Ev.neg (by decide) (Ev.neg (by decide) (Ev.now _))))
    | u => exact Ev.neg (by decide) (Ev.neg (by decide) (Ev.neg (by decide) (Ev.neg (by decide) (Ev.now _))))
  | two k a b =>
    obtain ⟨wa, wb⟩ := wf_two hw
    cases k with
    | p =>
      rw [show ((T.two .p a b).code.toNat : Int) = 112 from rfl]
      exact Ev.pos rfl (Ev.now _)
    | g =>
      rw [show ((T.two .g a b).code.toNat : Int) = 103 from rfl]
      exact Ev.neg (by decide) (Ev.pos rfl (Ev.pos (by simp [T.parts]) (Ev.now _)))
    | s =>
      rw [show ((T.two .s a b).code.toNat : Int) = 115 from rfl]
      refine Ev.neg (by decide) (Ev.neg (by decide) (Ev.pos rfl (Ev.pos (by simp [T.parts]) (Ev.bind (tog4_ev hS hl a wa) ?_))))
      by_cases h : tog S a = true
      · exact ev_cast (Ev.pos h (Ev.pos (by simp [T.parts]) (Ev.now _))) (by simp only [gives]; rw [if_pos h]; rfl)
      · exact ev_cast (Ev.neg h (Ev.now _)) (by simp only [gives]; rw [if_neg h]; rfl)
    | b =>
      rw [show ((T.two .b a b).code.toNat : Int) = 98 from rfl]
      have hpub : a.isPub = true := by
        have h := hw.1
        exact h.2.2 rfl
      cases a with
      | atom n => exact absurd hpub (by simp [T.isPub])
      | text s => exact absurd hpub (by simp [T.isPub])
      | two k x y => exact absurd hpub (by simp [T.isPub])
      | one k y =>
        have wy := wf_one wa
        have hpos := enc_pos (.one k y)
        have ex : (tm (.one k y)).extract 1 (tm (.one k y)).size = tm y := bs_inj (by rw [bytes_from, bytes_tm, bytes_tm]; rfl)
        refine Ev.neg (by decide) (Ev.neg (by decide) (Ev.neg (by decide) (Ev.pos rfl (Ev.pos (by simp [T.parts]) ?_))))
        show Ev (fun k_1 => if 1 ≤ ((tm (.one k y)).size : Int) then (letterlockref4_together.f k_1 (S.map tm) ((tm (.one k y)).extract 1 (tm (.one k y)).size)).bind _ else none) _
        rw [ex]
        refine Ev.pos (by rw [size_tm]; omega) (Ev.bind (tog4_ev hS hl y wy) ?_)
        by_cases h : tog S y = true
        · exact ev_cast (Ev.pos h (Ev.pos (by simp [T.parts]) (Ev.now _))) (by simp only [gives]; rw [if_pos h]; rfl)
        · exact ev_cast (Ev.neg h (Ev.now _)) (by simp only [gives]; rw [if_neg h]; rfl)

/-! ### had -/
theorem addAll_cons (S l : List T) (x : T) : addAll S (x :: l) = addAll (if S.contains x then S else S ++ [x]) l := rfl
theorem addAll_same {S l : List T} (h : ∀ x ∈ l, x ∈ S) : addAll S l = S := by
  induction l with
  | nil => rfl
  | cons x l ih =>
    rw [addAll_cons, if_pos (List.contains_iff_mem.2 (h x (by simp)))]
    exact ih fun y hy => h y (by simp [hy])
theorem gives_len (S : List T) (t : T) : (gives S t).length ≤ 2 := by
  unfold gives
  split
  · simp
  · simp
  · split <;> simp
  · split <;> simp
  · simp
/-- What is had so far: of all that is had, and of what is held. -/
structure Good (h L : List T) : Prop where
  nd : L.Nodup
  sub : ∀ x ∈ L, x ∈ hadL h
  sup : ∀ x ∈ h, x ∈ L
def End4 (h : List T) (f : Nat → Option (List ByteArray)) : Prop := ∃ L, Good h L ∧ ClosedT L ∧ Ev f (L.map tm)
theorem Good.len {h L : List T} (g : Good h L) : L.length ≤ (hadL h).length := nodup_len g.nd g.sub
theorem Good.gives {h L : List T} (g : Good h L) {t : T} (ht : t ∈ L) : ∀ x ∈ gives L t, x ∈ hadL h := fun x hx => hadL_closed h t (g.sub t ht) x (gives_mono g.sub t x hx)
theorem Good.add {h L l : List T} (g : Good h L) (hl : ∀ x ∈ l, x ∈ hadL h) : Good h (addAll L l) :=
  ⟨nodup_addAll _ _ g.nd, fun x hx => ((mem_addAll L l x).1 hx).elim (g.sub x) (hl x), fun x hx => (mem_addAll L l x).2 (Or.inl (g.sup x hx))⟩
theorem had3 {h : List T} (hwf : ∀ t ∈ hadL h, Wf t) (i : Nat) (hi : i ≤ 1000000) (g : List T) (hg : ∀ x ∈ g, x ∈ hadL h) (hgl : g.length ≤ 2) (v : List ByteArray) (m : Nat) : ∀ (c : Nat) (L : List T) (more : Bool), c + m = g.length →
    (∀ x ∈ L, x ∈ hadL h) → L.length + m ≤ 1000010 → Ev (fun k => letterlockref4_had.l2 k ((addAll L (g.drop c)).map tm) (more || (g.drop c).any fun x => !L.contains x) ((i + 1 : Nat) : Int)) v →
    Ev (fun k => letterlockref4_had.l3 k (L.map tm) more (i : Int) (g.map tm) (c : Int)) v := by
  induction m with
  | zero =>
    intro c L more hc hL hz hv
    rw [List.drop_eq_nil_of_le (by omega), List.any_nil, Bool.or_false] at hv
    refine Ev.step (fun _ => rfl) (Ev.neg (by rw [List.length_map]; omega) ?_)
    rw [w64 (n := (i : Int) + 1) (by omega) (by omega)]
    exact hv
  | succ m ih =>
    intro c L more hc hL hz hv
    have hcl : c < g.length := by omega
    have hwx := hwf _ (hg _ (List.getElem_mem hcl))
    rw [List.drop_eq_getElem_cons hcl, addAll_cons, List.any_cons] at hv
    refine Ev.step (fun _ => rfl) (Ev.pos (by rw [List.length_map]; omega) (Ev.pos (by omega) ?_))
    rw [rdOf_at _ _ c (by rw [List.length_map]; exact hcl), List.getElem_map, w64 (n := (c : Int) + 1) (by omega) (by omega)]
    refine Ev.bind (has_tm (fun t ht => hwf t (hL t ht)) (by omega) hwx) ?_
    cases hcon : L.contains g[c] with
    | true =>
      rw [hcon, if_pos rfl, Bool.not_true, Bool.false_or] at hv
      exact Ev.pos rfl (ih (c + 1) L more (by omega) hL (by omega) hv)
    | false =>
      rw [hcon, if_neg (by simp), Bool.not_false, Bool.true_or, Bool.or_true] at hv
      refine Ev.neg (by simp) (Ev.pos (by rw [List.length_map]; omega) ?_)
      rw [show L.map tm ++ [tm g[c]] = (L ++ [g[c]]).map tm from by rw [List.map_append]; rfl]
      refine ih (c + 1) (L ++ [g[c]]) true (by omega) (fun x hx => ?_) (by rw [List.length_append, List.length_singleton]; omega) (by rw [Bool.true_or]; exact hv)
      rcases List.mem_append.1 hx with hx | hx
      · exact hL x hx
      · rw [List.mem_singleton.1 hx]; exact hg _ (List.getElem_mem hcl)
theorem had2_next {h : List T} (hwf : ∀ t ∈ hadL h, Wf t) (hN : (hadL h).length ≤ 800000) {L : List T} (g : Good h L) (more : Bool) (i : Nat) (hi : i < L.length) {v : List ByteArray}
    (hv : Ev (fun k => letterlockref4_had.l2 k ((addAll L (gives L L[i])).map tm) (more || (gives L L[i]).any fun x => !L.contains x) ((i + 1 : Nat) : Int)) v) :
    Ev (fun k => letterlockref4_had.l2 k (L.map tm) more (i : Int)) v := by
  have hlen := g.len
  have hw : ∀ t ∈ L, Wf t := fun t ht => hwf t (g.sub t ht)
  have hm := List.getElem_mem hi
  refine Ev.step (fun _ => rfl) (Ev.pos (by rw [List.length_map]; omega) (Ev.pos (by omega) ?_))
  rw [rdOf_at _ _ i (by rw [List.length_map]; exact hi), List.getElem_map]
  have hg2 := gives_len L L[i]
  exact Ev.bind (gives4_ev hw (by omega) (hw _ hm)) (had3 hwf i (by omega) _ (g.gives hm) hg2 v (gives L L[i]).length 0 L more (by omega) g.sub (by omega) (by rw [List.drop_zero]; exact hv))
theorem had2_true {h : List T} (hwf : ∀ t ∈ hadL h, Wf t) (hN : (hadL h).length ≤ 800000) (n : Nat) (hA : ∀ L, Good h L → n < L.length → End4 h fun k => letterlockref4_had.l1 k (L.map tm) true) (m i : Nat) (hm : i + m = (hadL h).length) :
    ∀ L, Good h L → n < L.length → End4 h fun k => letterlockref4_had.l2 k (L.map tm) true (i : Int) := by
  induction m generalizing i with
  | zero =>
    intro L g hn
    have hlen := g.len
    obtain ⟨R, r1, r2, r3⟩ := hA L g hn
    exact ⟨R, r1, r2, Ev.step (fun _ => rfl) (Ev.neg (by rw [List.length_map]; omega) r3)⟩
  | succ m ih =>
    intro L g hn
    by_cases hi : i < L.length
    · have hg := g.gives (List.getElem_mem hi)
      obtain ⟨R, r1, r2, r3⟩ := ih (i + 1) (by omega) _ (g.add hg) (by have := (addAll_len L (gives L L[i])).1; omega)
      exact ⟨R, r1, r2, had2_next hwf hN g true i hi r3⟩
    · obtain ⟨R, r1, r2, r3⟩ := hA L g hn
      exact ⟨R, r1, r2, Ev.step (fun _ => rfl) (Ev.neg (by rw [List.length_map]; omega) r3)⟩
theorem had2_false {h : List T} (hwf : ∀ t ∈ hadL h, Wf t) (hN : (hadL h).length ≤ 800000) {L : List T} (g : Good h L) (hA : ∀ R, Good h R → L.length < R.length → End4 h fun k => letterlockref4_had.l1 k (R.map tm) true) (m i : Nat)
    (hm : i + m = (hadL h).length) (hinv : ∀ j, j < i → ∀ hj : j < L.length, ∀ x ∈ gives L L[j], x ∈ L) : End4 h fun k => letterlockref4_had.l2 k (L.map tm) false (i : Int) := by
  have fin : ∀ i : Nat, L.length ≤ i → (∀ j, j < i → ∀ hj : j < L.length, ∀ x ∈ gives L L[j], x ∈ L) → End4 h fun k => letterlockref4_had.l2 k (L.map tm) false (i : Int) := fun i hi hinv => by
    refine ⟨L, g, fun t ht x hx => ?_, Ev.step (fun _ => rfl) (Ev.neg (by rw [List.length_map]; omega) (Ev.step (fun _ => rfl) (Ev.now _)))⟩
    obtain ⟨j, hj, rfl⟩ := List.getElem_of_mem ht
    exact hinv j (by omega) hj x hx
  induction m generalizing i with
  | zero => exact fin i (by have := g.len; omega) hinv
  | succ m ih =>
    by_cases hi : i < L.length
    · have hg := g.gives (List.getElem_mem hi)
      by_cases hall : ∀ x ∈ gives L L[i], x ∈ L
      · obtain ⟨R, r1, r2, r3⟩ := ih (i + 1) (by omega) (fun j hj hjl => by
          by_cases e : j = i
          · subst e; exact hall
          · exact hinv j (by omega) hjl)
        refine ⟨R, r1, r2, had2_next hwf hN g false i hi ?_⟩
        rw [addAll_same hall, show (false || (gives L L[i]).any fun x => !L.contains x) = false from by
          rw [Bool.false_or, List.any_eq_false]
          intro x hx
          rw [List.contains_iff_mem.2 (hall x hx)]; simp]
        exact r3
      · have hlonger : L.length < (addAll L (gives L L[i])).length := by
          obtain ⟨a1, a2⟩ := addAll_len L (gives L L[i])
          rcases Nat.lt_or_ge L.length (addAll L (gives L L[i])).length with h1 | h1
          · exact h1
          · exact absurd (a2 (by omega)) hall
        obtain ⟨R, r1, r2, r3⟩ := had2_true hwf hN L.length hA m (i + 1) (by omega) _ (g.add hg) hlonger
        refine ⟨R, r1, r2, had2_next hwf hN g false i hi ?_⟩
        rw [show (false || (gives L L[i]).any fun x => !L.contains x) = true from by
          rw [Bool.false_or, List.any_eq_true]
          refine Classical.byContradiction fun hne => hall fun x hx => Classical.byContradiction fun hx2 => hne ⟨x, hx, by rw [contains_false hx2]; rfl⟩]
        exact r3
    · exact fin i (by omega) hinv
theorem had1 {h : List T} (hwf : ∀ t ∈ hadL h, Wf t) (hN : (hadL h).length ≤ 800000) (n : Nat) : ∀ L, Good h L → (hadL h).length ≤ L.length + n → End4 h fun k => letterlockref4_had.l1 k (L.map tm) true := by
  induction n with
  | zero =>
    intro L g hn
    obtain ⟨R, r1, r2, r3⟩ := had2_false hwf hN g (fun R gR hR => absurd gR.len (by omega)) (hadL h).length 0 (by omega) (fun j hj => absurd hj (by omega))
    exact ⟨R, r1, r2, Ev.step (fun _ => rfl) r3⟩
  | succ n ih =>
    intro L g hn
    obtain ⟨R, r1, r2, r3⟩ := had2_false hwf hN g (fun R gR hR => ih R gR (by omega)) (hadL h).length 0 (by omega) (fun j hj => absurd hj (by omega))
    exact ⟨R, r1, r2, Ev.step (fun _ => rfl) r3⟩
theorem had0 (ts : List T) (hw : ∀ t ∈ ts, Wf t) (hl : ts.length ≤ 1000) (v : List ByteArray) (m : Nat) : ∀ (i : Nat) (acc : List T), i + m = ts.length → acc.length ≤ i → (∀ t ∈ acc, Wf t) →
    Ev (fun k => letterlockref4_had.l1 k ((addAll acc (ts.drop i)).map tm) true) v → Ev (fun k => letterlockref4_had.l0 k (ts.map tm) (acc.map tm) (i : Int)) v := by
  induction m with
  | zero =>
    intro i acc hm ha hwa hv
    rw [List.drop_eq_nil_of_le (by omega)] at hv
    exact Ev.step (fun _ => rfl) (Ev.neg (by rw [List.length_map]; omega) hv)
  | succ m ih =>
    intro i acc hm ha hwa hv
    have hi : i < ts.length := by omega
    have hwx := hw _ (List.getElem_mem hi)
    rw [List.drop_eq_getElem_cons hi, addAll_cons] at hv
    refine Ev.step (fun _ => rfl) (Ev.pos (by rw [List.length_map]; omega) (Ev.pos (by omega) ?_))
    rw [rdOf_at _ _ i (by rw [List.length_map]; exact hi), List.getElem_map, w64 (n := (i : Int) + 1) (by omega) (by omega)]
    refine Ev.bind (has_tm hwa (by omega) hwx) ?_
    cases hcon : acc.contains ts[i] with
    | true =>
      rw [hcon, if_pos rfl] at hv
      exact Ev.pos rfl (ih (i + 1) acc (by omega) (by omega) hwa hv)
    | false =>
      rw [hcon, if_neg (by simp)] at hv
      refine Ev.neg (by simp) (Ev.pos (by rw [List.length_map]; omega) ?_)
      rw [show acc.map tm ++ [tm ts[i]] = (acc ++ [ts[i]]).map tm from by rw [List.map_append]; rfl]
      refine ih (i + 1) (acc ++ [ts[i]]) (by omega) (by rw [List.length_append, List.length_singleton]; omega) (fun x hx => ?_) hv
      rcases List.mem_append.1 hx with hx | hx
      · exact hwa x hx
      · rw [List.mem_singleton.1 hx]; exact hwx
theorem had4_ev {ts : List T} (hw : ∀ t ∈ ts, Wf t) (hl : ts.length ≤ 200) : End4 ts fun k => letterlockref4_had.f k (ts.map tm) := by
  have g : Good ts (addAll [] ts) := ⟨nodup_addAll _ _ List.nodup_nil, fun x hx => hadL_sup _ x (((mem_addAll [] ts x).1 hx).elim (fun h => absurd h (by simp)) id), fun x hx => (mem_addAll [] ts x).2 (Or.inr hx)⟩
  obtain ⟨R, r1, r2, r3⟩ := had1 (wf_had hw) (had_few hw hl) (hadL ts).length _ g (by omega)
  exact ⟨R, r1, r2, had0 ts hw (by omega) _ ts.length 0 [] (by omega) (by simp) (by simp) (by rw [List.drop_zero]; exact r3)⟩
theorem Good.mem {h L : List T} (g : Good h L) (hc : ClosedT L) (x : T) : x ∈ L ↔ x ∈ hadL h := hadL_iff g.sup hc g.sub x

/-! ### Apart -/
def leb (a b : ByteArray) : Prop := bytes a ≤ bytes b
def Fin4 (z : List ByteArray) (f : Nat → Option (List ByteArray × Int)) : Prop := ∃ y : List ByteArray, y.Perm z ∧ y.Pairwise leb ∧ Ev f (y, 0)
theorem leb_trans {a b c : ByteArray} (h1 : leb a b) (h2 : leb b c) : leb a c := List.le_trans h1 h2
theorem sort1 (z : List ByteArray) (e : ByteArray) (r : List ByteArray) (n : Nat) : ∀ (p q : List ByteArray), p.length = n → n + q.length + r.length ≤ 1000000 → (p ++ q).Pairwise leb → (∀ x ∈ q, leb e x) →
    (∀ y, y.Perm (p ++ e :: q) → y.Pairwise leb → Fin4 z fun k => letterlockref4_Apart.l0 k (y ++ r) ((y.length : Nat) : Int)) →
    Fin4 z fun k => letterlockref4_Apart.l1 k (p ++ e :: q ++ r) ((n + q.length : Nat) : Int) (n : Int) := by
  induction n with
  | zero =>
    intro p q hp hz hpw he hn
    obtain rfl : p = [] := List.length_eq_zero_iff.1 hp
    obtain ⟨y, y1, y2, y3⟩ := hn (e :: q) (List.Perm.refl _) (List.pairwise_cons.2 ⟨he, hpw⟩)
    refine ⟨y, y1, y2, Ev.step (fun _ => rfl) (Ev.neg (by omega) ?_)⟩
    rw [w64 (n := ((0 + q.length : Nat) : Int) + 1) (by omega) (by omega), show ((0 + q.length : Nat) : Int) + 1 = (((e :: q).length : Nat) : Int) from by rw [List.length_cons]; omega]
    exact y3
  | succ n ih =>
    intro p q hp hz hpw he hn
    obtain ⟨p, w, rfl⟩ : ∃ p' w, p = p' ++ [w] := ⟨p.dropLast, p.getLast (by intro h; rw [h] at hp; simp at hp), (List.dropLast_concat_getLast _).symm⟩
    have hpl : p.length = n := by rw [List.length_append, List.length_singleton] at hp; omega
    have hx : p ++ [w] ++ e :: q ++ r = p ++ w :: e :: (q ++ r) := by simp
    have hlen : (p ++ w :: e :: (q ++ r)).length = n + 2 + q.length + r.length := by simp only [List.length_append, List.length_cons]; omega
    have g1 : rdOf ByteArray.empty (p ++ w :: e :: (q ++ r)) ((n + 1 : Nat) : Int) = e := by
      rw [rdOf_at _ _ _ (by rw [hlen]; omega), List.getElem_append_right (by omega)]
      simp [hpl]
    have g2 : rdOf ByteArray.empty (p ++ w :: e :: (q ++ r)) (n : Int) = w := by
      rw [rdOf_at _ _ _ (by rw [hlen]; omega), List.getElem_append_right (by omega)]
      simp [hpl]
    have hw1 : wrap64 (((n + 1 : Nat) : Int) - 1) = (n : Int) := by rw [w64 (by omega) (by omega)]; omega
    rw [hx]
    by_cases hlt : Op.bytesLess e.toList w.toList = true
    · have hset : ((p ++ w :: e :: (q ++ r)).set (n + 1) w).set n e = p ++ e :: (w :: q) ++ r := by
        rw [List.set_append, if_neg (by omega), List.set_append, if_neg (by omega)]
        simp [hpl]
      have hew : leb e w := by
        rw [less_lt, decide_eq_true_eq, bytes_toList, bytes_toList] at hlt
        exact List.le_of_lt hlt
      have hih := ih p (w :: q) hpl (by rw [List.length_cons]; omega) (by simpa using hpw) (fun x hx => by
        rcases List.mem_cons.1 hx with rfl | hx
        · exact hew
        · exact he x hx) (fun y y1 y2 => hn y (y1.trans (by
            rw [List.append_assoc]
            exact List.Perm.append_left p (List.Perm.swap w e q))) y2)
      obtain ⟨y, y1, y2, y3⟩ := hih
      refine ⟨y, y1, y2, Ev.step (fun _ => rfl) (Ev.pos (by omega) (Ev.pos (by omega) (Ev.pos (by rw [hlen]; omega) ?_)))⟩
      rw [hw1]
      refine Ev.pos (by omega) (Ev.pos (by rw [hlen]; omega) ?_)
      rw [g1, g2]
      refine Ev.pos hlt ?_
      rw [Int.toNat_natCast, Int.toNat_natCast, hset, show n + 1 + q.length = n + (w :: q).length from by rw [List.length_cons]; omega]
      exact y3
    · have hwe : leb w e := by
        rw [less_lt, decide_eq_true_eq, bytes_toList, bytes_toList] at hlt
        exact List.not_lt.1 hlt
      have hpw' : (p ++ [w] ++ e :: q).Pairwise leb := by
        rw [List.pairwise_append] at hpw ⊢
        obtain ⟨a1, a2, a3⟩ := hpw
        refine ⟨a1, List.pairwise_cons.2 ⟨he, a2⟩, fun a ha b hb => ?_⟩
        have haw : leb a w := by
          rw [List.pairwise_append] at a1
          rcases List.mem_append.1 ha with ha | ha
          · exact a1.2.2 a ha w (by simp)
          · rw [List.mem_singleton.1 ha]; exact List.le_refl _
        rcases List.mem_cons.1 hb with rfl | hb
        · exact leb_trans haw hwe
        · exact a3 a ha b hb
      obtain ⟨y, y1, y2, y3⟩ := hn _ (List.Perm.refl _) hpw'
      refine ⟨y, y1, y2, Ev.step (fun _ => rfl) (Ev.pos (by omega) (Ev.pos (by omega) (Ev.pos (by rw [hlen]; omega) ?_)))⟩
      rw [hw1]
      refine Ev.pos (by omega) (Ev.pos (by rw [hlen]; omega) ?_)
      rw [g1, g2]
      refine Ev.neg hlt ?_
      rw [hx] at y3
      rw [w64 (n := ((n + 1 + q.length : Nat) : Int) + 1) (by omega) (by omega), show ((n + 1 + q.length : Nat) : Int) + 1 = (((p ++ [w] ++ e :: q).length : Nat) : Int) from by simp only [List.length_append, List.length_cons, List.length_nil]; omega]
      exact y3
theorem sort0 (z : List ByteArray) (r : List ByteArray) : ∀ y : List ByteArray, y.length + r.length ≤ 1000000 → y.Pairwise leb → (y ++ r).Perm z → Fin4 z fun k => letterlockref4_Apart.l0 k (y ++ r) ((y.length : Nat) : Int) := by
  induction r with
  | nil =>
    intro y hz hy hp
    rw [List.append_nil] at hp ⊢
    exact ⟨y, hp, hy, Ev.step (fun _ => rfl) (Ev.neg (by omega) (Ev.now _))⟩
  | cons e r ih =>
    intro y hz hy hp
    rw [List.length_cons] at hz
    obtain ⟨x, x1, x2, x3⟩ := sort1 z e r y.length y [] rfl (by simp; omega) (by rw [List.append_nil]; exact hy) (fun x hx => absurd hx (by simp)) (fun x x1 x2 => by
      have hl := x1.length_eq
      rw [List.length_append, List.length_singleton] at hl
      refine ih x (by omega) x2 ?_
      refine (List.Perm.append_right r x1).trans ?_
      rw [List.append_assoc]
      exact hp)
    refine ⟨x, x1, x2, Ev.step (fun _ => rfl) (Ev.pos (by rw [List.length_append, List.length_cons]; omega) ?_)⟩
    rw [List.length_nil, Nat.add_zero, List.append_assoc] at x3
    exact x3
theorem LT_pairwise (S : List T) : (LT S).Pairwise leb := by
  unfold LT
  rw [List.pairwise_map]
  have h : ((sortT S).map enc).Pairwise (fun a b => decide (a ≤ b) = true) := by
    rw [sortT_enc]
    exact List.pairwise_mergeSort (fun a b c h1 h2 => by simp only [decide_eq_true_eq] at *; exact List.le_trans h1 h2) (fun a b => by simp only [Bool.or_eq_true, decide_eq_true_eq]; exact List.le_total a b) _
  rw [List.pairwise_map] at h
  refine h.imp fun {a b} hab => ?_
  show bytes (tB a) ≤ bytes (tB b)
  rw [show bytes (tB a) = enc a from bytes_ofBytes _, show bytes (tB b) = enc b from bytes_ofBytes _]
  exact of_decide_eq_true hab
theorem sorted_eq {y : List ByteArray} {L : List T} (hp : y.Perm (L.map tm)) (hy : y.Pairwise leb) : y = LT L := by
  have h2 : (LT L).Perm (L.map tm) := (List.mergeSort_perm L _).map tm
  exact List.Perm.eq_of_pairwise (le := leb) (fun a b _ _ h1 h2 => bs_inj (List.le_antisymm h1 h2)) hy (LT_pairwise L) (hp.trans h2.symm)
theorem terms_of {l : List ByteArray} (h : l.all right = true) : ∃ ts : List T, l = ts.map tm ∧ (∀ t ∈ ts, Wf t) := by
  induction l with
  | nil => exact ⟨[], rfl, by simp⟩
  | cons s l ih =>
    rw [List.all_cons, Bool.and_eq_true] at h
    obtain ⟨t, ht, rfl⟩ := right_tm_of h.1
    obtain ⟨ts, rfl, hts⟩ := ih h.2
    exact ⟨t :: ts, rfl, fun x hx => (List.mem_cons.1 hx).elim (fun e => e ▸ ht) (hts x)⟩
theorem apart4_ev (l : List ByteArray) (hl : l.length ≤ 1000000) : Ev (fun k => letterlockref4_Apart.f k l) (apartF l) := by
  unfold letterlockref4_Apart.f apartF
  have h4 := right4_ev l (by omega)
  cases hr : l.all right with
  | false =>
    rw [hr, if_neg (by simp : ¬ (false = true))] at h4
    rw [if_neg (by simp : ¬ (false = true))]
    exact Ev.bind h4 (Ev.now _)
  | true =>
    rw [hr, if_pos (rfl : true = true)] at h4
    rw [if_pos (rfl : true = true)]
    by_cases h2 : 200 < l.length
    · rw [if_pos h2] at h4 ⊢
      exact Ev.bind h4 (Ev.now _)
    · rw [if_neg h2] at h4 ⊢
      obtain ⟨ts, rfl, hw⟩ := terms_of hr
      rw [List.length_map] at h2
      rw [termsOf_tm hw]
      obtain ⟨L, g, hc, hev⟩ := had4_ev hw (by omega)
      have hlen := g.len
      have hfew := had_few hw (by omega)
      refine Ev.bind h4 (Ev.bind hev ?_)
      have hfin : Fin4 (L.map tm) fun k => letterlockref4_Apart.l0 k (L.map tm) 1 := by
        cases L with
        | nil => exact ⟨[], List.Perm.refl _, List.Pairwise.nil, Ev.step (fun k => show letterlockref4_Apart.l0 (k + 1) [] 1 = some ([], 0) from rfl) (Ev.now _)⟩
        | cons x L =>
          have := sort0 ((x :: L).map tm) (L.map tm) [tm x] (by simp only [List.length_cons, List.length_nil, List.length_map] at *; omega) (List.pairwise_singleton _ _) (List.Perm.refl _)
          exact this
      obtain ⟨y, y1, y2, y3⟩ := hfin
      refine ev_cast y3 ?_
      rw [sorted_eq y1 y2, LT_congr g.nd (hadL_nodup ts) (g.mem hc)]
theorem derives4_ev (l : List ByteArray) (s : ByteArray) (hl : l.length ≤ 1000000) : Ev (fun k => letterlockref4_Derives.f k l s) (derivesF l s) := by
  unfold letterlockref4_Derives.f derivesF
  have h4 := right4_ev l (by omega)
  cases hr : l.all right with
  | false =>
    rw [hr, if_neg (by simp : ¬ (false = true))] at h4
    rw [if_neg (by simp : ¬ (false = true))]
    exact Ev.bind h4 (Ev.step (fun _ => rfl) (Ev.step (fun _ => rfl) (Ev.now _)))
  | true =>
    rw [hr, if_pos (rfl : true = true)] at h4
    rw [if_pos (rfl : true = true)]
    by_cases h2 : 200 < l.length
    · rw [if_pos h2] at h4 ⊢
      exact Ev.bind h4 (Ev.step (fun _ => rfl) (Ev.step (fun _ => rfl) (Ev.now _)))
    · rw [if_neg h2] at h4 ⊢
      refine Ev.bind h4 (Ev.bind (refRight_ev s) ?_)
      cases hs : right s with
      | false =>
        rw [if_neg (by simp : ¬ (false = true))]
        exact Ev.step (fun _ => rfl) (Ev.step (fun _ => rfl) (Ev.now _))
      | true =>
        rw [if_pos (rfl : true = true)]
        obtain ⟨ts, rfl, hw⟩ := terms_of hr
        obtain ⟨t, ht, rfl⟩ := right_tm_of hs
        rw [List.length_map] at h2
        rw [termsOf_tm hw]
        obtain ⟨L, g, hc, hev⟩ := had4_ev hw (by omega)
        have hlen := g.len
        have hfew := had_few hw (by omega)
        refine Ev.step (fun _ => rfl) (Ev.step (fun _ => rfl) (Ev.bind hev (Ev.bind (tog4_ev (fun t ht => wf_had hw t (g.sub t ht)) (by omega) t ht) (ev_cast (Ev.now _) ?_))))
        rw [show togB (hadL ts) (tm t) = tog (hadL ts) t from togB_tB _ ht, tog_congr (g.mem hc) t]

end Go.Proofs.Ytnieihhnchefdaa.Ref
