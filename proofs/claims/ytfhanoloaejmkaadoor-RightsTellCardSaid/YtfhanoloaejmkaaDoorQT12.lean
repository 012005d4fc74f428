/- Contracts and laws that the statement of LawRightsTell leans on (packed from this claim's own texts): part 12. -/
import Derived.Test.YtfhanoloaejmkaaDoorQT7
import Derived.Test.YtfhanoloaejmkaaDoorQT11
section

namespace Go.Proofs.YtfhanoloaejmkaaDoor.Ref
open Go.RowKit Go.Proofs.YtfhanoloaejmkaaDoor Go.Proofs.YtfhanoloaejmkaaDoor.PA Go.Proofs.YtfhanoloaejmkaaDoorW.PrintWords Go.Proofs.YtfhanoloaejmkaaDoorW.PrintLast
set_option linter.unusedVariables false
theorem bytes_ne {s : ByteArray} (h : bytes s ≠ []) : ¬ s.toList = ([] : List UInt8) := by rw [bytes_toList]; exact h
theorem first_bad {l : Bs} (hne : l ≠ []) (h : Bad l) : firstF l = (0, 0) := by unfold firstF; rw [if_neg hne, if_pos h]
theorem first_good {l : Bs} (hne : l ≠ []) (h : ¬ Bad l) : firstF l = (((Lib.decodeL l).1 : Int), ((Lib.decodeL l).2 : Int)) := by unfold firstF; rw [if_neg hne, if_neg h]
theorem extract_step (s : ByteArray) (w : Nat) : bytes (s.extract ((w : Int)).toNat s.size) = (bytes s).drop w := by rw [Int.toNat_natCast, bytes_from]
theorem refRunes_loop (l : Bs) : ∀ (s : ByteArray) (acc : List Int), bytes s = l → s.size ≤ 1000000 → acc.length + s.size ≤ 1000000 →
  Ev (fun k => letterlockref1_Runes.l0 k s acc) (if Lib.validD l = true then (acc ++ runesD l, 0) else ([], 2)) := by
 refine steps_ind (p := fun l => ∀ (s : ByteArray) (acc : List Int), bytes s = l → s.size ≤ 1000000 → acc.length + s.size ≤ 1000000 →
  Ev (fun k => letterlockref1_Runes.l0 k s acc) (if Lib.validD l = true then (acc ++ runesD l, 0) else ([], 2))) ?_ ?_ l
 ·intro s acc hs hz ha
  refine ev_cast (Ev.step (fun _ => rfl) (Ev.pos (by rw [bytes_toList]; exact hs) (Ev.now _))) ?_
  rw [if_pos Lib.validD_nil, runesD_nil, List.append_nil]
 ·intro l hne ih s acc hs hz ha
  have hw := Lib.decodeL_width l
  have hle := Lib.decodeL_le l hne
  have hsz : s.size = l.length := by rw [← bytes_length, hs]
  refine Ev.step (fun _ => rfl) (Ev.neg (bytes_ne (by rw [hs]; exact hne)) (Ev.bind (first_ev s) ?_))
  rw [hs]
  by_cases hb : Bad l
  ·rw [first_bad hne hb]
   refine ev_cast (Ev.pos rfl (Ev.now _)) ?_
   rw [if_neg (by rw [valid_step hne, if_pos hb]; simp)]
  ·rw [first_good hne hb]
   refine Ev.neg (by show ¬ ((Lib.decodeL l).2 : Int) = 0; omega) (Ev.pos (by omega) (Ev.pos (by show (0 : Int) ≤ ((Lib.decodeL l).2 : Int); omega) (Ev.pos (by show ((Lib.decodeL l).2 : Int) ≤ (s.size : Int); omega) ?_)))
   have hd := extract_step s (Lib.decodeL l).2
   rw [hs] at hd
   have hz2 : (s.extract (((Lib.decodeL l).2 : Int)).toNat s.size).size = l.length - (Lib.decodeL l).2 := by rw [← bytes_length, hd, List.length_drop]
   refine ev_cast (ih (s.extract (((Lib.decodeL l).2 : Int)).toNat s.size) (acc ++ [((Lib.decodeL l).1 : Int)]) hd (by omega) (by rw [List.length_append, List.length_singleton]; omega)) ?_
   rw [valid_step hne, if_neg hb, runesD_step hne, List.append_assoc]
   rfl
theorem refRunes_ev (s : ByteArray) (h : s.size ≤ 1000000) : Ev (fun k => letterlockref1_Runes.f k s) (runesF s) := by
 unfold letterlockref1_Runes.f
 refine ev_cast (refRunes_loop (bytes s) s [] rfl h (by simpa using h)) ?_
 unfold runesF
 cases Lib.validD (bytes s) <;> rfl
theorem in_ref (r a b : Int) : letterlockref1_in.f r a b = some (decide (a ≤ r ∧ r ≤ b)) := by
 unfold letterlockref1_in.f
 by_cases h : r ≥ a
 ·rw [if_pos h]
  by_cases h2 : r ≤ b
  ·rw [decide_eq_true h2, decide_eq_true ⟨h, h2⟩]
  ·rw [decide_eq_false h2, decide_eq_false (fun e => h2 e.2)]
 ·rw [if_neg h, decide_eq_false (fun e => h e.1)]
theorem or_ite2 (p : Prop) [Decidable p] (b : Bool) : (if p then some true else some b) = some (decide p || b) := by
 by_cases h : p
 ·rw [if_pos h, decide_eq_true h]; rfl
 ·rw [if_neg h, decide_eq_false h]; rfl
theorem letter_ref (r : Int) : letterlockref1_letter.f r = some (letterZ r) := by
 unfold letterlockref1_letter.f letterZ
 simp only [in_ref, Option.bind_some, or_ite2, Bool.decide_eq_true, Bool.or_assoc]
theorem refRight_loop (l : List Int) (hl : l.length ≤ 1000000) (m i : Nat) (hm : i + m = l.length) : Ev (fun k => letterlockref1_Right.l0 k l (i : Int)) ((l.drop i).all letterZ) := by
 induction m generalizing i with
 | zero =>
  rw [List.drop_eq_nil_of_le (by omega)]
  exact Ev.step (fun _ => rfl) (Ev.neg (by omega) (Ev.now _))
 | succ m ih =>
  have hi : i < l.length := by omega
  have ih := ih (i + 1) (by omega)
  rw [List.drop_eq_getElem_cons hi, List.all_cons]
  refine Ev.step (fun _ => rfl) (Ev.pos (by omega) (Ev.pos (by omega) ?_))
  rw [rd_get l i hi]
  refine Ev.put (letter_ref l[i]) ?_
  cases letterZ l[i] with
  | false => exact Ev.neg (by simp) (Ev.now _)
  | true =>
   refine Ev.pos rfl ?_
   rw [w64 (by omega) (by omega), Bool.true_and]
   exact ih
theorem refRight_ev (s : ByteArray) (h : s.size ≤ 1000000) : Ev (fun k => letterlockref1_Right.f k s) (rightN (bytes s)) := by
 have hl := runesD_len (bytes s)
 rw [bytes_length] at hl
 unfold letterlockref1_Right.f
 refine Ev.bind (refRunes_ev s h) ?_
 unfold rightN
 cases hv : Lib.validD (bytes s) with
 | false =>
  rw [runesF_bad hv]
  exact Ev.neg (by simp) (Ev.step (fun _ => rfl) (Ev.now _))
 | true =>
  rw [runesF_valid hv]
  refine Ev.pos rfl ?_
  by_cases h1 : ((runesD (bytes s)).length : Int) < 1
  ·refine ev_cast (Ev.pos h1 (Ev.step (fun _ => rfl) (Ev.now _))) ?_
   rw [decide_eq_false (by omega), Bool.and_false]
  ·refine Ev.neg h1 ?_
   by_cases h2 : ((runesD (bytes s)).length : Int) > 32
   ·show Ev (fun k => letterlockref1_Right.j0 k (runesD (bytes s)) (decide (((runesD (bytes s)).length : Int) > 32))) _
    rw [decide_eq_true h2]
    refine ev_cast (Ev.step (fun _ => rfl) (Ev.now _)) ?_
    rw [decide_eq_false (by omega), Bool.and_false]
   ·show Ev (fun k => letterlockref1_Right.j0 k (runesD (bytes s)) (decide (((runesD (bytes s)).length : Int) > 32))) _
    rw [decide_eq_false h2]
    refine Ev.step (fun _ => rfl) (ev_cast (refRight_loop (runesD (bytes s)) (by omega) (runesD (bytes s)).length 0 (by omega)) ?_)
    rw [decide_eq_true ⟨by omega, by omega⟩, Bool.and_true, Bool.true_and]; rfl
theorem refLess_loop (a b : ByteArray) (ha : a.size ≤ 1000000) (hb : b.size ≤ 1000000) (m i : Nat) (hm : i + m = a.size) (hi : i ≤ b.size) (hp : (bytes a).take i = (bytes b).take i) :
  Ev (fun k => letterlockref1_Less.l0 k a b (i : Int)) (decide ((bytes a).drop i < (bytes b).drop i)) := by
 induction m generalizing i with
 | zero =>
  have e1 : (bytes a).drop i = [] := List.drop_eq_nil_of_le (by rw [bytes_length]; omega)
  refine Ev.step (fun _ => rfl) (Ev.neg (by omega) (Ev.step (fun _ => rfl) ?_))
  refine ev_cast (Ev.now _) ?_
  rw [e1]
  by_cases h : i < b.size
  ·rw [decide_eq_true (by omega), List.drop_eq_getElem_cons (by rw [bytes_length]; exact h)]
   exact (decide_eq_true (List.nil_lt_cons _ _)).symm
  ·rw [decide_eq_false (by omega), List.drop_eq_nil_of_le (by rw [bytes_length]; omega)]
   exact (decide_eq_false (List.lt_irrefl _)).symm
 | succ m ih =>
  have hla : i < (bytes a).length := by rw [bytes_length]; omega
  refine Ev.step (fun _ => rfl) (Ev.pos (by omega) ?_)
  by_cases h : i < b.size
  ·have hlb : i < (bytes b).length := by rw [bytes_length]; exact h
   rw [decide_eq_true (by omega : (i : Int) < (b.size : Int)), List.drop_eq_getElem_cons hla, List.drop_eq_getElem_cons hlb]
   refine Ev.step (fun _ => rfl) (Ev.pos (by omega) (Ev.pos (by omega) ?_))
   rw [bt_bytes a i (by omega), bt_bytes b i h]
   by_cases he : (bytes a)[i] = (bytes b)[i]
   ·refine Ev.pos (by rw [he]) ?_
    rw [w64 (by omega) (by omega)]
    refine ev_cast (ih (i + 1) (by omega) (by omega) (by rw [List.take_succ_eq_append_getElem hla, List.take_succ_eq_append_getElem hlb, hp, he])) ?_
    rw [he]
    exact decide_eq_decide.2 ⟨fun h => List.cons_lt_cons_iff.2 (Or.inr ⟨rfl, h⟩), fun h => (List.cons_lt_cons_iff.1 h).elim (fun e => absurd e (UInt8.lt_irrefl _)) And.right⟩
   ·have hne : ¬ (((bytes a)[i]).toNat : Int) = (((bytes b)[i]).toNat : Int) := fun e => he (UInt8.toNat_inj.1 (by omega))
    refine Ev.neg hne (ev_cast (Ev.now _) ?_)
    by_cases hl : (bytes a)[i] < (bytes b)[i]
    ·rw [decide_eq_true (by have := UInt8.lt_iff_toNat_lt.1 hl; omega), decide_eq_true (List.cons_lt_cons_iff.2 (Or.inl hl))]
    ·rw [decide_eq_false (fun e => hl (UInt8.lt_iff_toNat_lt.2 (by omega))), decide_eq_false (fun e => by
      rcases List.cons_lt_cons_iff.1 e with e | e
      ·exact hl e
      ·exact he e.1)]
  ·rw [decide_eq_false (by omega : ¬ (i : Int) < (b.size : Int)), List.drop_eq_nil_of_le (by rw [bytes_length]; omega : (bytes b).length ≤ i)]
   refine Ev.step (fun _ => rfl) (ev_cast (Ev.now _) ?_)
   rw [decide_eq_false (by omega)]
   exact (decide_eq_false (List.not_lt_nil _)).symm
theorem refLess_ev (a b : ByteArray) (ha : a.size ≤ 1000000) (hb : b.size ≤ 1000000) : Ev (fun k => letterlockref1_Less.f k a b) (decide (bytes a < bytes b)) := by
 unfold letterlockref1_Less.f
 exact ev_cast (refLess_loop a b ha hb a.size 0 (by omega) (by omega) (by simp)) (by simp)
end Go.Proofs.YtfhanoloaejmkaaDoor.Ref
end
section

namespace Go.Proofs.YtfhanoloaejmkaaDoor.PA
open Go.RowKit Go.Proofs.YtfhanoloaejmkaaDoorW.PrintWords Go.Proofs.YtfhanoloaejmkaaDoorW.PrintLast Go.Proofs.YtfhanoloaejmkaaDoorW.PrintMore
attribute [local go_sem] max2_int min2_int max_two min_two max_three min_three max_four min_four   -- for this text's walks alone
set_option linter.unusedVariables false
set_option linter.unusedSimpArgs false
def letterlockref7_with.l0 : Nat → List ByteArray → ByteArray → List ByteArray → Bool → Int → Option (List ByteArray)
 | 0, _, _, _, _, _ => none
 | k + 1, x0, x1, x5, x6, x7 => if x7 < (x0.length : Int) then (if x6 = true then (if 0 ≤ x7 then (if x5.length < 8796093022208 then (letterlockref7_with.l0 k x0 x1 (x5 ++ [rdOf ByteArray.empty x0 x7]) x6 (wrap64 (x7 + 1))) else (none)) else (none)) else (if 0 ≤ x7 then ((letterlockref1_Less.f k x1 (rdOf ByteArray.empty x0 x7)).bind fun t180 => (if t180 = true then (if x5.length < 8796093022208 then ((some (x5 ++ [x1] : List ByteArray)).bind fun y181 => (if y181.length < 8796093022208 then (letterlockref7_with.l0 k x0 x1 (y181 ++ [rdOf ByteArray.empty x0 x7]) true (wrap64 (x7 + 1))) else (none))) else (none)) else (if x5.length < 8796093022208 then (letterlockref7_with.l0 k x0 x1 (x5 ++ [rdOf ByteArray.empty x0 x7]) x6 (wrap64 (x7 + 1))) else (none)))) else (none))) else (if x6 = true then (some x5) else (if x5.length < 8796093022208 then (some (x5 ++ [x1])) else (none)))
def letterlockref7_with.f (k : Nat) (l0 : List ByteArray) (a1 : ByteArray) : Option (List ByteArray) := letterlockref7_with.l0 k l0 a1 ([] : List ByteArray) false 0
set_option maxHeartbeats 8000000 in
set_option maxRecDepth 100000 in
theorem letterlockref7_with.calls (k : Nat) (A0 : Option Addr) (c0 : Nat) (l0 : List ByteArray) (a1 : ByteArray) (r : List ByteArray) (w : World) (hr0 : Kd.C Kd.string w A0 l0.length l0) (hc0 : l0.length ≤ c0) (h : letterlockref7_with.f k l0 a1 = some r) :
  Calls Tryd.prog 50 #[.slice A0 l0.length c0, .string a1] w fun e w' => ∃ v0_ : Value, e = .returned (v0_) ∧ Kd.R Kd.string 9 w' w.heap.size (fun _ => True) v0_ r ∧ Below w.heap.size w w' := by
 have HR0 := Aside0.mk hr0
 have HC0 := Aside0.mk hc0
 clear hr0 hc0
 have HB := Aside0.mk (Below.refl w.heap.size w)
 have H : (letterlockref7_with.l0 k l0 a1 ([] : List ByteArray) false 0) = some r := h
 clear h
 have H' := Aside0.mk H
 clear H
 go_enter Tryd.func50, Tryd.ntmps50
 go_wp2
 go_loopg [5, 6, 7] k (fun kq v5 v6 v7 w' => ∃ (x5_1 : List ByteArray) (x6_1 : Bool) (x7_1 : Int), v6 = .bool x6_1 ∧ v7 = .int .i64 x7_1 ∧ Aside0 (letterlockref7_with.l0 kq l0 a1 x5_1 x6_1 x7_1 = some r) ∧ Aside0 (kq ≤ k) ∧ Aside0 (Kd.R Kd.string 9 w' w.heap.size (fun _ => True) v5 x5_1) ∧ Aside0 (Below w.heap.size w w'))
 case atStart => exact ⟨(([] : List ByteArray)), (false), (0), (by first | rfl | (simp; done) | (simp [*]; done)), (by first | rfl | (simp; done) | (simp [*]; done)), H', ⟨Nat.le_refl _⟩, ⟨by first | exact Kd.R_nil _ _ _ _ _ | exact Kd.N_nil _ _ _ _ _ | exact Kd.V_nil _ _ _ _ _ | exact Kd.Q_nil _ _ _ _ _ | exact Kd.S_nil _ _ _ _ _⟩, ⟨by repeat (first | (with_reducible first | exact HB.out | apply below_alloc | apply pw_below_drewN | apply below_drew1) | exact HB.out)⟩⟩
 case round =>
  clear H'
  try clear p2
  obtain ⟨x5_1, x6_1, x7_1, rfl, rfl, HA, HK1, HO_5, HB⟩ := hrel
  cases gk with
  | zero => exact absurd HA.out (by simp [letterlockref7_with.l0])
  | succ k1 =>
   have H := HA.out
   clear HA
   simp only [letterlockref7_with.l0] at H
   by_cases c3 : x7_1 < (l0.length : Int)
   ·rw [if_pos c3] at H
    have c3b0 : decide (x7_1 < (l0.length : Int)) = true := decide_eq_true c3
    clear c3
    by_cases c4 : x6_1 = true
    ·subst c4
     have H1 : (if 0 ≤ x7_1 then (if x5_1.length < 8796093022208 then (letterlockref7_with.l0 k1 l0 a1 (x5_1 ++ [rdOf ByteArray.empty l0 x7_1]) true (wrap64 (x7_1 + 1))) else (none)) else (none)) = some r := by rw [if_pos rfl] at H; exact H
     clear H
     have H := H1
     clear H1
     by_cases c5 : 0 ≤ x7_1
     ·rw [if_pos c5] at H
      have c5b0 : decide (0 ≤ x7_1) = true := decide_eq_true c5
      clear c5
      by_cases c6 : x5_1.length < 8796093022208
      ·rw [if_pos c6] at H
       have LMc6 := Aside0.mk c6
       clear c6
       obtain ⟨y176, hy176⟩ : ∃ y_ : List ByteArray, y_ = (x5_1 ++ [rdOf ByteArray.empty l0 x7_1]) := ⟨_, rfl⟩
       replace H : (letterlockref7_with.l0 k1 l0 a1 y176 true (wrap64 (x7_1 + 1))) = some r := by first | (rw [hy176]; with_reducible exact H) | (have H2_ := (Option.bind_some _ _).symm.trans H; rw [hy176]; with_reducible exact H2_) | (have H2_ := (Option.bind_some _ _).symm.trans H; with_reducible exact H2_) | with_reducible exact H | (rw [hy176]; exact H) | exact H
       have Ny176 := Aside0.mk hy176
       clear hy176
       have H' := Aside0.mk H
       clear H
       have p175 : 0 ≤ (x7_1 : Int) := of_decide_eq_true (by first | (with_reducible assumption) | assumption)
       have q175 : x7_1 < (l0.length : Int) := of_decide_eq_true (by first | (with_reducible assumption) | assumption)
       obtain ⟨ad175, e175, hx175_0⟩ := Kd.at_string HR0.out x7_1 p175 q175
       cases e175
       replace hx175_0 := (HB.out.cell (World.block_lt_of_cell? w _ hx175_0)).trans hx175_0
       replace p175 := eq_true p175
       replace q175 := eq_true q175
       go_wp2_with (first | ((with_reducible refine gate_builtin (b := .append) (xs := #[.tmp 28, .tmp 33]) rfl ?_); at_builtin; refine Kd.R_append Kd.string (w0 := w) w.heap.size rfl (.tmp 28) (.tmp 33) 24 9 (.string ⟨#[]⟩) 16 rfl Tryd.underlying24 info9 rfl (by decide) (by omega) u5 x5_1 (rdOf ByteArray.empty l0 x7_1) [.string (rdOf ByteArray.empty l0 x7_1)] (fun _ => True) (fun _ => False) rfl rfl ?aP (fun _ hk => hk.elim) ?aF ?aO ?aB ?aS ?aL ?_; (case aP => exact rfl); (case aB => exact (by repeat (first | (with_reducible first | exact HB.out | apply below_alloc | apply pw_below_drewN | apply below_drew1) | exact HB.out))); (case aF => exact (fun _ _ => trivial)); (case aO => exact (by (with_reducible repeat (first | apply Kd.R_alloc | apply Kd.R_drewN | apply Kd.R_drew)); exact HO_5.out)); (case aS => exact (below_size (by repeat (first | (with_reducible first | exact HB.out | apply below_alloc | apply pw_below_drewN | apply below_drew1) | exact HB.out)))); (case aL => have := LMc6.out; omega); intro v177 w7 ho hb hg hat; rw [← Ny176.out] at ho; have n0_ := Aside0.mk (hb); have n1_ := Aside0.mk (ho); clear HB; clear HO_5; have HB := n0_; have HO178 := n1_; clear n0_ n1_; clear ho hb hg hat))
       go_roundg k1
       case measure => have := HK1.out; omega
       case rel => exact ⟨(y176), (true), (wrap64 (x7_1 + 1)), (by first | rfl | (simp; done) | (simp [*]; done)), (by first | rfl | (simp; done) | (simp [*]; done)), H', ⟨by have := HK1.out; omega⟩, ⟨by (with_reducible repeat (first | apply Kd.R_alloc | apply Kd.R_drewN | apply Kd.R_drew)); exact HO178.out⟩, ⟨by repeat (first | (with_reducible first | exact HB.out | apply below_alloc | apply pw_below_drewN | apply below_drew1) | exact HB.out)⟩⟩
      ·rw [if_neg c6] at H
       exact absurd H (by simp)
     ·rw [if_neg c5] at H
      exact absurd H (by simp)
    ·replace c4 := Bool.eq_false_iff.mpr c4
     subst c4
     have H1 : (if 0 ≤ x7_1 then ((letterlockref1_Less.f k1 a1 (rdOf ByteArray.empty l0 x7_1)).bind fun t180 => (if t180 = true then (if x5_1.length < 8796093022208 then ((some (x5_1 ++ [a1] : List ByteArray)).bind fun y181 => (if y181.length < 8796093022208 then (letterlockref7_with.l0 k1 l0 a1 (y181 ++ [rdOf ByteArray.empty l0 x7_1]) true (wrap64 (x7_1 + 1))) else (none))) else (none)) else (if x5_1.length < 8796093022208 then (letterlockref7_with.l0 k1 l0 a1 (x5_1 ++ [rdOf ByteArray.empty l0 x7_1]) false (wrap64 (x7_1 + 1))) else (none)))) else (none)) = some r := by rw [if_neg (show ¬ (false = true) by decide)] at H; exact H
     clear H
     have H := H1
     clear H1
     by_cases c8 : 0 ≤ x7_1
     ·rw [if_pos c8] at H
      have c8b0 : decide (0 ≤ x7_1) = true := decide_eq_true c8
      clear c8
      replace H := Option.bind_eq_some_iff.mp H
      obtain ⟨t180, A90, H⟩ := H
      replace H : (if t180 = true then (if x5_1.length < 8796093022208 then ((some (x5_1 ++ [a1] : List ByteArray)).bind fun y181 => (if y181.length < 8796093022208 then (letterlockref7_with.l0 k1 l0 a1 (y181 ++ [rdOf ByteArray.empty l0 x7_1]) true (wrap64 (x7_1 + 1))) else (none))) else (none)) else (if x5_1.length < 8796093022208 then (letterlockref7_with.l0 k1 l0 a1 (x5_1 ++ [rdOf ByteArray.empty l0 x7_1]) false (wrap64 (x7_1 + 1))) else (none))) = some r := H
      have A9 := Aside0.mk A90
      clear A90
      by_cases c10 : t180 = true
      ·subst c10
       have H1 : (if x5_1.length < 8796093022208 then ((some (x5_1 ++ [a1] : List ByteArray)).bind fun y181 => (if y181.length < 8796093022208 then (letterlockref7_with.l0 k1 l0 a1 (y181 ++ [rdOf ByteArray.empty l0 x7_1]) true (wrap64 (x7_1 + 1))) else (none))) else (none)) = some r := by rw [if_pos rfl] at H; exact H
       clear H
       have H := H1
       clear H1
       by_cases c11 : x5_1.length < 8796093022208
       ·rw [if_pos c11] at H
        have LMc11 := Aside0.mk c11
        clear c11
        obtain ⟨y181, hy181⟩ : ∃ y_ : List ByteArray, y_ = (x5_1 ++ [a1]) := ⟨_, rfl⟩
        replace H : (if y181.length < 8796093022208 then (letterlockref7_with.l0 k1 l0 a1 (y181 ++ [rdOf ByteArray.empty l0 x7_1]) true (wrap64 (x7_1 + 1))) else (none)) = some r := by first | (rw [hy181]; with_reducible exact H) | (have H2_ := (Option.bind_some _ _).symm.trans H; rw [hy181]; with_reducible exact H2_) | (have H2_ := (Option.bind_some _ _).symm.trans H; with_reducible exact H2_) | with_reducible exact H | (rw [hy181]; exact H) | exact H
        have Ny181 := Aside0.mk hy181
        clear hy181
        by_cases c12 : y181.length < 8796093022208
        ·rw [if_pos c12] at H
         have LMc12 := Aside0.mk c12
         clear c12
         obtain ⟨y185, hy185⟩ : ∃ y_ : List ByteArray, y_ = (y181 ++ [rdOf ByteArray.empty l0 x7_1]) := ⟨_, rfl⟩
         replace H : (letterlockref7_with.l0 k1 l0 a1 y185 true (wrap64 (x7_1 + 1))) = some r := by first | (rw [hy185]; with_reducible exact H) | (have H2_ := (Option.bind_some _ _).symm.trans H; rw [hy185]; with_reducible exact H2_) | (have H2_ := (Option.bind_some _ _).symm.trans H; with_reducible exact H2_) | with_reducible exact H | (rw [hy185]; exact H) | exact H
         have Ny185 := Aside0.mk hy185
         clear hy185
         have H' := Aside0.mk H
         clear H
         have p179 : 0 ≤ (x7_1 : Int) := of_decide_eq_true (by first | (with_reducible assumption) | assumption)
         have q179 : x7_1 < (l0.length : Int) := of_decide_eq_true (by first | (with_reducible assumption) | assumption)
         obtain ⟨ad179, e179, hx179_0⟩ := Kd.at_string HR0.out x7_1 p179 q179
         cases e179
         replace hx179_0 := (HB.out.cell (World.block_lt_of_cell? w _ hx179_0)).trans hx179_0
         replace p179 := eq_true p179
         replace q179 := eq_true q179
         go_wp2_with (first | (go_at_call 70; (with_reducible refine (letterlockref1_Less.calls k1 a1 (rdOf ByteArray.empty l0 x7_1) true _ A9.out).mono ?_); rintro e w' ⟨rfl, ⟨nd, rfl⟩⟩) | ((with_reducible refine gate_builtin (b := .append) (xs := #[.tmp 24, .tmp 26]) rfl ?_); at_builtin; refine Kd.R_append Kd.string (w0 := w) w.heap.size rfl (.tmp 24) (.tmp 26) 24 9 (.string ⟨#[]⟩) 16 rfl Tryd.underlying24 info9 rfl (by decide) (by omega) u5 x5_1 a1 [.string a1] (fun _ => True) (fun _ => False) rfl rfl ?aP (fun _ hk => hk.elim) ?aF ?aO ?aB ?aS ?aL ?_; (case aP => exact rfl); (case aB => exact (by repeat (first | (with_reducible first | exact HB.out | apply below_alloc | apply pw_below_drewN | apply below_drew1) | exact HB.out))); (case aF => exact (fun _ _ => trivial)); (case aO => exact (by (with_reducible repeat (first | apply Kd.R_alloc | apply Kd.R_drewN | apply Kd.R_drew)); exact HO_5.out)); (case aS => exact (below_size (by repeat (first | (with_reducible first | exact HB.out | apply below_alloc | apply pw_below_drewN | apply below_drew1) | exact HB.out)))); (case aL => have := LMc11.out; omega); intro v182 w13 ho hb hg hat; rw [← Ny181.out] at ho; have n0_ := Aside0.mk (hb); have n1_ := Aside0.mk (ho); clear HB; clear HO_5; have HB := n0_; have HO183 := n1_; clear n0_ n1_; clear ho hb hg hat; have p184 : 0 ≤ (x7_1 : Int) := of_decide_eq_true (by first | (with_reducible assumption) | assumption); have q184 : x7_1 < (l0.length : Int) := of_decide_eq_true (by first | (with_reducible assumption) | assumption); obtain ⟨ad184, e184, hx184_0⟩ := Kd.at_string HR0.out x7_1 p184 q184; obtain rfl : ad179 = ad184 := (by injection e184); replace hx184_0 := (HB.out.cell (World.block_lt_of_cell? w _ hx184_0)).trans hx184_0; replace p184 := eq_true p184; replace q184 := eq_true q184) | ((with_reducible refine gate_builtin (b := .append) (xs := #[.tmp 28, .tmp 33]) rfl ?_); at_builtin; refine Kd.R_append Kd.string (w0 := w) w.heap.size rfl (.tmp 28) (.tmp 33) 24 9 (.string ⟨#[]⟩) 16 rfl Tryd.underlying24 info9 rfl (by decide) (by omega) v182 y181 (rdOf ByteArray.empty l0 x7_1) [.string (rdOf ByteArray.empty l0 x7_1)] (fun _ => True) (fun _ => False) rfl rfl ?aP (fun _ hk => hk.elim) ?aF ?aO ?aB ?aS ?aL ?_; (case aP => exact rfl); (case aB => exact (by repeat (first | (with_reducible first | exact HB.out | apply below_alloc | apply pw_below_drewN | apply below_drew1) | exact HB.out))); (case aF => exact (fun _ _ => trivial)); (case aO => exact (by (with_reducible repeat (first | apply Kd.R_alloc | apply Kd.R_drewN | apply Kd.R_drew)); exact HO183.out)); (case aS => exact (below_size (by repeat (first | (with_reducible first | exact HB.out | apply below_alloc | apply pw_below_drewN | apply below_drew1) | exact HB.out)))); (case aL => have := LMc12.out; omega); intro v186 w14 ho hb hg hat; rw [← Ny185.out] at ho; have n0_ := Aside0.mk (hb); have n1_ := Aside0.mk (ho); clear HB; clear HO183; have HB := n0_; have HO187 := n1_; clear n0_ n1_; clear ho hb hg hat))
         go_roundg k1
         case measure => have := HK1.out; omega
         case rel => exact ⟨(y185), (true), (wrap64 (x7_1 + 1)), (by first | rfl | (simp; done) | (simp [*]; done)), (by first | rfl | (simp; done) | (simp [*]; done)), H', ⟨by have := HK1.out; omega⟩, ⟨by (with_reducible repeat (first | apply Kd.R_alloc | apply Kd.R_drewN | apply Kd.R_drew)); exact HO187.out⟩, ⟨by repeat (first | (with_reducible first | exact HB.out | apply below_alloc | apply pw_below_drewN | apply below_drew1) | exact HB.out)⟩⟩
        ·rw [if_neg c12] at H
         exact absurd H (by simp)
       ·rw [if_neg c11] at H
        exact absurd H (by simp)
      ·replace c10 := Bool.eq_false_iff.mpr c10
       subst c10
       have H1 : (if x5_1.length < 8796093022208 then (letterlockref7_with.l0 k1 l0 a1 (x5_1 ++ [rdOf ByteArray.empty l0 x7_1]) false (wrap64 (x7_1 + 1))) else (none)) = some r := by rw [if_neg (show ¬ (false = true) by decide)] at H; exact H
       clear H
       have H := H1
       clear H1
       by_cases c15 : x5_1.length < 8796093022208
       ·rw [if_pos c15] at H
        have LMc15 := Aside0.mk c15
        clear c15
        obtain ⟨y189, hy189⟩ : ∃ y_ : List ByteArray, y_ = (x5_1 ++ [rdOf ByteArray.empty l0 x7_1]) := ⟨_, rfl⟩
        replace H : (letterlockref7_with.l0 k1 l0 a1 y189 false (wrap64 (x7_1 + 1))) = some r := by first | (rw [hy189]; with_reducible exact H) | (have H2_ := (Option.bind_some _ _).symm.trans H; rw [hy189]; with_reducible exact H2_) | (have H2_ := (Option.bind_some _ _).symm.trans H; with_reducible exact H2_) | with_reducible exact H | (rw [hy189]; exact H) | exact H
        have Ny189 := Aside0.mk hy189
        clear hy189
        have H' := Aside0.mk H
        clear H
        have p179 : 0 ≤ (x7_1 : Int) := of_decide_eq_true (by first | (with_reducible assumption) | assumption)
        have q179 : x7_1 < (l0.length : Int) := of_decide_eq_true (by first | (with_reducible assumption) | assumption)
        obtain ⟨ad179, e179, hx179_0⟩ := Kd.at_string HR0.out x7_1 p179 q179
        cases e179
        replace hx179_0 := (HB.out.cell (World.block_lt_of_cell? w _ hx179_0)).trans hx179_0
        replace p179 := eq_true p179
        replace q179 := eq_true q179
        go_wp2_with (first | (go_at_call 70; (with_reducible refine (letterlockref1_Less.calls k1 a1 (rdOf ByteArray.empty l0 x7_1) false _ A9.out).mono ?_); rintro e w' ⟨rfl, ⟨nd, rfl⟩⟩; have p188 : 0 ≤ (x7_1 : Int) := of_decide_eq_true (by first | (with_reducible assumption) | assumption); have q188 : x7_1 < (l0.length : Int) := of_decide_eq_true (by first | (with_reducible assumption) | assumption); obtain ⟨ad188, e188, hx188_0⟩ := Kd.at_string HR0.out x7_1 p188 q188; obtain rfl : ad179 = ad188 := (by injection e188); replace hx188_0 := (HB.out.cell (World.block_lt_of_cell? w _ hx188_0)).trans hx188_0; replace p188 := eq_true p188; replace q188 := eq_true q188) | ((with_reducible refine gate_builtin (b := .append) (xs := #[.tmp 28, .tmp 33]) rfl ?_); at_builtin; refine Kd.R_append Kd.string (w0 := w) w.heap.size rfl (.tmp 28) (.tmp 33) 24 9 (.string ⟨#[]⟩) 16 rfl Tryd.underlying24 info9 rfl (by decide) (by omega) u5 x5_1 (rdOf ByteArray.empty l0 x7_1) [.string (rdOf ByteArray.empty l0 x7_1)] (fun _ => True) (fun _ => False) rfl rfl ?aP (fun _ hk => hk.elim) ?aF ?aO ?aB ?aS ?aL ?_; (case aP => exact rfl); (case aB => exact (by repeat (first | (with_reducible first | exact HB.out | apply below_alloc | apply pw_below_drewN | apply below_drew1) | exact HB.out))); (case aF => exact (fun _ _ => trivial)); (case aO => exact (by (with_reducible repeat (first | apply Kd.R_alloc | apply Kd.R_drewN | apply Kd.R_drew)); exact HO_5.out)); (case aS => exact (below_size (by repeat (first | (with_reducible first | exact HB.out | apply below_alloc | apply pw_below_drewN | apply below_drew1) | exact HB.out)))); (case aL => have := LMc15.out; omega); intro v190 w16 ho hb hg hat; rw [← Ny189.out] at ho; have n0_ := Aside0.mk (hb); have n1_ := Aside0.mk (ho); clear HB; clear HO_5; have HB := n0_; have HO191 := n1_; clear n0_ n1_; clear ho hb hg hat))
        go_roundg k1
        case measure => have := HK1.out; omega
        case rel => exact ⟨(y189), (false), (wrap64 (x7_1 + 1)), (by first | rfl | (simp; done) | (simp [*]; done)), (by first | rfl | (simp; done) | (simp [*]; done)), H', ⟨by have := HK1.out; omega⟩, ⟨by (with_reducible repeat (first | apply Kd.R_alloc | apply Kd.R_drewN | apply Kd.R_drew)); exact HO191.out⟩, ⟨by repeat (first | (with_reducible first | exact HB.out | apply below_alloc | apply pw_below_drewN | apply below_drew1) | exact HB.out)⟩⟩
       ·rw [if_neg c15] at H
        exact absurd H (by simp)
     ·rw [if_neg c8] at H
      exact absurd H (by simp)
   ·rw [if_neg c3] at H
    have c3b0 : decide (x7_1 < (l0.length : Int)) = false := decide_eq_false c3
    clear c3
    by_cases c17 : x6_1 = true
    ·subst c17
     have H1 : (some x5_1) = some r := by rw [if_pos rfl] at H; exact H
     clear H
     have H := H1
     clear H1
     obtain rfl := Option.some.inj H
     go_wp2
     go_ret
     exact ⟨_, by first | rfl | (simp [errW_none, errW_some] <;> rfl) | (simp [*, errW_none, errW_some] <;> rfl), by (with_reducible repeat (first | apply Kd.R_alloc | apply Kd.R_drewN | apply Kd.R_drew)); exact HO_5.out, by repeat (first | (with_reducible first | exact HB.out | apply below_alloc | apply pw_below_drewN | apply below_drew1) | exact HB.out)⟩
    ·replace c17 := Bool.eq_false_iff.mpr c17
     subst c17
     have H1 : (if x5_1.length < 8796093022208 then (some (x5_1 ++ [a1])) else (none)) = some r := by rw [if_neg (show ¬ (false = true) by decide)] at H; exact H
     clear H
     have H := H1
     clear H1
     by_cases c18 : x5_1.length < 8796093022208
     ·rw [if_pos c18] at H
      have LMc18 := Aside0.mk c18
      clear c18
      obtain ⟨y192, hy192⟩ : ∃ y_ : List ByteArray, y_ = (x5_1 ++ [a1]) := ⟨_, rfl⟩
      replace H : (some y192) = some r := by first | (rw [hy192]; with_reducible exact H) | (have H2_ := (Option.bind_some _ _).symm.trans H; rw [hy192]; with_reducible exact H2_) | (have H2_ := (Option.bind_some _ _).symm.trans H; with_reducible exact H2_) | with_reducible exact H | (rw [hy192]; exact H) | exact H
      have Ny192 := Aside0.mk hy192
      clear hy192
      obtain rfl := Option.some.inj H
      go_wp2_with (first | ((with_reducible refine gate_builtin (b := .append) (xs := #[.tmp 37, .tmp 39]) rfl ?_); at_builtin; refine Kd.R_append Kd.string (w0 := w) w.heap.size rfl (.tmp 37) (.tmp 39) 24 9 (.string ⟨#[]⟩) 16 rfl Tryd.underlying24 info9 rfl (by decide) (by omega) u5 x5_1 a1 [.string a1] (fun _ => True) (fun _ => False) rfl rfl ?aP (fun _ hk => hk.elim) ?aF ?aO ?aB ?aS ?aL ?_; (case aP => exact rfl); (case aB => exact (by repeat (first | (with_reducible first | exact HB.out | apply below_alloc | apply pw_below_drewN | apply below_drew1) | exact HB.out))); (case aF => exact (fun _ _ => trivial)); (case aO => exact (by (with_reducible repeat (first | apply Kd.R_alloc | apply Kd.R_drewN | apply Kd.R_drew)); exact HO_5.out)); (case aS => exact (below_size (by repeat (first | (with_reducible first | exact HB.out | apply below_alloc | apply pw_below_drewN | apply below_drew1) | exact HB.out)))); (case aL => have := LMc18.out; omega); intro v193 w19 ho hb hg hat; rw [← Ny192.out] at ho; have n0_ := Aside0.mk (hb); have n1_ := Aside0.mk (ho); clear HB; clear HO_5; have HB := n0_; have HO194 := n1_; clear n0_ n1_; clear ho hb hg hat))
      go_ret
      exact ⟨_, by first | rfl | (simp [errW_none, errW_some] <;> rfl) | (simp [*, errW_none, errW_some] <;> rfl), by (with_reducible repeat (first | apply Kd.R_alloc | apply Kd.R_drewN | apply Kd.R_drew)); exact HO194.out, by repeat (first | (with_reducible first | exact HB.out | apply below_alloc | apply pw_below_drewN | apply below_drew1) | exact HB.out)⟩
     ·rw [if_neg c18] at H
      exact absurd H (by simp)
def letterlockref7_without.l0 : Nat → List ByteArray → ByteArray → List ByteArray → Int → Option (List ByteArray)
 | 0, _, _, _, _ => none
 | k + 1, x0, x1, x5, x6 => if x6 < (x0.length : Int) then (if 0 ≤ x6 then (if (rdOf ByteArray.empty x0 x6).toList = x1.toList then (letterlockref7_without.l0 k x0 x1 x5 (wrap64 (x6 + 1))) else (if x5.length < 8796093022208 then (letterlockref7_without.l0 k x0 x1 (x5 ++ [rdOf ByteArray.empty x0 x6]) (wrap64 (x6 + 1))) else (none))) else (none)) else (some x5)
def letterlockref7_without.f (k : Nat) (l0 : List ByteArray) (a1 : ByteArray) : Option (List ByteArray) := letterlockref7_without.l0 k l0 a1 ([] : List ByteArray) 0
set_option maxHeartbeats 8000000 in
set_option maxRecDepth 100000 in
theorem letterlockref7_without.calls (k : Nat) (A0 : Option Addr) (c0 : Nat) (l0 : List ByteArray) (a1 : ByteArray) (r : List ByteArray) (w : World) (hr0 : Kd.C Kd.string w A0 l0.length l0) (hc0 : l0.length ≤ c0) (h : letterlockref7_without.f k l0 a1 = some r) :
  Calls Tryd.prog 49 #[.slice A0 l0.length c0, .string a1] w fun e w' => ∃ v0_ : Value, e = .returned (v0_) ∧ Kd.R Kd.string 9 w' w.heap.size (fun _ => True) v0_ r ∧ Below w.heap.size w w' := by
 have HR0 := Aside0.mk hr0
 have HC0 := Aside0.mk hc0
 clear hr0 hc0
 have HB := Aside0.mk (Below.refl w.heap.size w)
 have H : (letterlockref7_without.l0 k l0 a1 ([] : List ByteArray) 0) = some r := h
 clear h
 have H' := Aside0.mk H
 clear H
 go_enter Tryd.func49, Tryd.ntmps49
 go_wp2
 go_loopg [5, 6] k (fun kq v5 v6 w' => ∃ (x5_1 : List ByteArray) (x6_1 : Int), v6 = .int .i64 x6_1 ∧ Aside0 (letterlockref7_without.l0 kq l0 a1 x5_1 x6_1 = some r) ∧ Aside0 (kq ≤ k) ∧ Aside0 (Kd.R Kd.string 9 w' w.heap.size (fun _ => True) v5 x5_1) ∧ Aside0 (Below w.heap.size w w'))
 case atStart => exact ⟨(([] : List ByteArray)), (0), (by first | rfl | (simp; done) | (simp [*]; done)), H', ⟨Nat.le_refl _⟩, ⟨by first | exact Kd.R_nil _ _ _ _ _ | exact Kd.N_nil _ _ _ _ _ | exact Kd.V_nil _ _ _ _ _ | exact Kd.Q_nil _ _ _ _ _ | exact Kd.S_nil _ _ _ _ _⟩, ⟨by repeat (first | (with_reducible first | exact HB.out | apply below_alloc | apply pw_below_drewN | apply below_drew1) | exact HB.out)⟩⟩
 case round =>
  clear H'
  try clear p2
  obtain ⟨x5_1, x6_1, rfl, HA, HK1, HO_5, HB⟩ := hrel
  cases gk with
  | zero => exact absurd HA.out (by simp [letterlockref7_without.l0])
  | succ k1 =>
   have H := HA.out
   clear HA
   simp only [letterlockref7_without.l0] at H
   by_cases c3 : x6_1 < (l0.length : Int)
   ·rw [if_pos c3] at H
    have c3b0 : decide (x6_1 < (l0.length : Int)) = true := decide_eq_true c3
    clear c3
    by_cases c4 : 0 ≤ x6_1
    ·rw [if_pos c4] at H
     have c4b0 : decide (0 ≤ x6_1) = true := decide_eq_true c4
     clear c4
     by_cases c5 : (rdOf ByteArray.empty l0 x6_1).toList = a1.toList
     ·rw [if_pos c5] at H
      have c5b0 : ((rdOf ByteArray.empty l0 x6_1).toList == a1.toList) = true := beq_iff_eq.mpr c5
      have c5b1 : ((rdOf ByteArray.empty l0 x6_1).toList != a1.toList) = false := bne_eq_false_iff_eq.mpr c5
      clear c5
      have H' := Aside0.mk H
      clear H
      have p195 : 0 ≤ (x6_1 : Int) := of_decide_eq_true (by first | (with_reducible assumption) | assumption)
      have q195 : x6_1 < (l0.length : Int) := of_decide_eq_true (by first | (with_reducible assumption) | assumption)
      obtain ⟨ad195, e195, hx195_0⟩ := Kd.at_string HR0.out x6_1 p195 q195
      cases e195
      replace hx195_0 := (HB.out.cell (World.block_lt_of_cell? w _ hx195_0)).trans hx195_0
      replace p195 := eq_true p195
      replace q195 := eq_true q195
      go_wp2
      go_roundg k1
      case measure => have := HK1.out; omega
      case rel => exact ⟨(x5_1), (wrap64 (x6_1 + 1)), (by first | rfl | (simp; done) | (simp [*]; done)), H', ⟨by have := HK1.out; omega⟩, ⟨by (with_reducible repeat (first | apply Kd.R_alloc | apply Kd.R_drewN | apply Kd.R_drew)); exact HO_5.out⟩, ⟨by repeat (first | (with_reducible first | exact HB.out | apply below_alloc | apply pw_below_drewN | apply below_drew1) | exact HB.out)⟩⟩
     ·rw [if_neg c5] at H
      have c5b0 : ((rdOf ByteArray.empty l0 x6_1).toList == a1.toList) = false := beq_eq_false_iff_ne.mpr c5
      have c5b1 : ((rdOf ByteArray.empty l0 x6_1).toList != a1.toList) = true := bne_iff_ne.mpr c5
      by_cases c6 : x5_1.length < 8796093022208
      ·rw [if_pos c6] at H
       have LMc6 := Aside0.mk c6
       clear c6
       obtain ⟨y197, hy197⟩ : ∃ y_ : List ByteArray, y_ = (x5_1 ++ [rdOf ByteArray.empty l0 x6_1]) := ⟨_, rfl⟩
       replace H : (letterlockref7_without.l0 k1 l0 a1 y197 (wrap64 (x6_1 + 1))) = some r := by first | (rw [hy197]; with_reducible exact H) | (have H2_ := (Option.bind_some _ _).symm.trans H; rw [hy197]; with_reducible exact H2_) | (have H2_ := (Option.bind_some _ _).symm.trans H; with_reducible exact H2_) | with_reducible exact H | (rw [hy197]; exact H) | exact H
       have Ny197 := Aside0.mk hy197
       clear hy197
       have H' := Aside0.mk H
       clear H
       have p195 : 0 ≤ (x6_1 : Int) := of_decide_eq_true (by first | (with_reducible assumption) | assumption)
       have q195 : x6_1 < (l0.length : Int) := of_decide_eq_true (by first | (with_reducible assumption) | assumption)
       obtain ⟨ad195, e195, hx195_0⟩ := Kd.at_string HR0.out x6_1 p195 q195
       cases e195
       replace hx195_0 := (HB.out.cell (World.block_lt_of_cell? w _ hx195_0)).trans hx195_0
       replace p195 := eq_true p195
       replace q195 := eq_true q195
       have p196 : 0 ≤ (x6_1 : Int) := of_decide_eq_true (by first | (with_reducible assumption) | assumption)
       have q196 : x6_1 < (l0.length : Int) := of_decide_eq_true (by first | (with_reducible assumption) | assumption)
       obtain ⟨ad196, e196, hx196_0⟩ := Kd.at_string HR0.out x6_1 p196 q196
       obtain rfl : ad195 = ad196 := (by injection e196)
       replace hx196_0 := (HB.out.cell (World.block_lt_of_cell? w _ hx196_0)).trans hx196_0
       replace p196 := eq_true p196
       replace q196 := eq_true q196
       go_wp2_with (first | ((with_reducible refine gate_builtin (b := .append) (xs := #[.tmp 19, .tmp 24]) rfl ?_); at_builtin; refine Kd.R_append Kd.string (w0 := w) w.heap.size rfl (.tmp 19) (.tmp 24) 24 9 (.string ⟨#[]⟩) 16 rfl Tryd.underlying24 info9 rfl (by decide) (by omega) u5 x5_1 (rdOf ByteArray.empty l0 x6_1) [.string (rdOf ByteArray.empty l0 x6_1)] (fun _ => True) (fun _ => False) rfl rfl ?aP (fun _ hk => hk.elim) ?aF ?aO ?aB ?aS ?aL ?_; (case aP => exact rfl); (case aB => exact (by repeat (first | (with_reducible first | exact HB.out | apply below_alloc | apply pw_below_drewN | apply below_drew1) | exact HB.out))); (case aF => exact (fun _ _ => trivial)); (case aO => exact (by (with_reducible repeat (first | apply Kd.R_alloc | apply Kd.R_drewN | apply Kd.R_drew)); exact HO_5.out)); (case aS => exact (below_size (by repeat (first | (with_reducible first | exact HB.out | apply below_alloc | apply pw_below_drewN | apply below_drew1) | exact HB.out)))); (case aL => have := LMc6.out; omega); intro v198 w7 ho hb hg hat; rw [← Ny197.out] at ho; have n0_ := Aside0.mk (hb); have n1_ := Aside0.mk (ho); clear HB; clear HO_5; have HB := n0_; have HO199 := n1_; clear n0_ n1_; clear ho hb hg hat))
       go_roundg k1
       case measure => have := HK1.out; omega
       case rel => exact ⟨(y197), (wrap64 (x6_1 + 1)), (by first | rfl | (simp; done) | (simp [*]; done)), H', ⟨by have := HK1.out; omega⟩, ⟨by (with_reducible repeat (first | apply Kd.R_alloc | apply Kd.R_drewN | apply Kd.R_drew)); exact HO199.out⟩, ⟨by repeat (first | (with_reducible first | exact HB.out | apply below_alloc | apply pw_below_drewN | apply below_drew1) | exact HB.out)⟩⟩
      ·rw [if_neg c6] at H
       exact absurd H (by simp)
    ·rw [if_neg c4] at H
     exact absurd H (by simp)
   ·rw [if_neg c3] at H
    have c3b0 : decide (x6_1 < (l0.length : Int)) = false := decide_eq_false c3
    clear c3
    obtain rfl := Option.some.inj H
    go_wp2
    go_ret
    exact ⟨_, by first | rfl | (simp [errW_none, errW_some] <;> rfl) | (simp [*, errW_none, errW_some] <;> rfl), by (with_reducible repeat (first | apply Kd.R_alloc | apply Kd.R_drewN | apply Kd.R_drew)); exact HO_5.out, by repeat (first | (with_reducible first | exact HB.out | apply below_alloc | apply pw_below_drewN | apply below_drew1) | exact HB.out)⟩
end Go.Proofs.YtfhanoloaejmkaaDoor.PA
end
section

namespace Go.Proofs.YtfhanoloaejmkaaDoor.Ref
open Go.RowKit Go.Proofs.YtfhanoloaejmkaaDoor Go.Proofs.YtfhanoloaejmkaaDoor.PA Go.Proofs.YtfhanoloaejmkaaDoorW.PrintWords Go.Proofs.YtfhanoloaejmkaaDoorW.PrintLast
set_option linter.unusedVariables false
theorem refHas_loop (l : List ByteArray) (s : ByteArray) (hl : l.length ≤ 1000000) (m i : Nat) (hm : i + m = l.length) : Ev (fun k => letterlockref7_Has.l0 k l s (i : Int)) (decide (s ∈ l.drop i)) := by
 induction m generalizing i with
 | zero =>
  rw [List.drop_eq_nil_of_le (by omega), decide_eq_false (by simp)]
  exact Ev.step (fun _ => rfl) (Ev.neg (by omega) (Ev.now _))
 | succ m ih =>
  have hi : i < l.length := by omega
  refine Ev.step (fun _ => rfl) (Ev.pos (by omega) (Ev.pos (by omega) ?_))
  rw [rdOf_nth, nth_get hi, w64 (n := (i : Int) + 1) (by omega) (by omega)]
  by_cases h : l[i] = s
  ·rw [decide_eq_true (by rw [List.drop_eq_getElem_cons hi, h]; exact List.mem_cons_self)]
   exact Ev.pos ((list_eq _ _).2 h) (Ev.now _)
  ·refine Ev.neg (fun e => h ((list_eq _ _).1 e)) (ev_cast (ih (i + 1) (by omega)) ?_)
   refine decide_eq_decide.2 ?_
   rw [List.drop_eq_getElem_cons hi, List.mem_cons]
   exact ⟨Or.inr, fun e => e.resolve_left fun e => h e.symm⟩
theorem refHas_ev (l : List ByteArray) (s : ByteArray) (hl : l.length ≤ 1000000) : Ev (fun k => letterlockref7_Has.f k l s) (decide (s ∈ l)) := refHas_loop l s hl l.length 0 (by omega)
theorem refWithout_loop (l : List ByteArray) (s : ByteArray) (hl : l.length ≤ 1000000) (m i : Nat) (hm : i + m = l.length) (acc : List ByteArray) (ha : acc.length ≤ i) :
  Ev (fun k => letterlockref7_without.l0 k l s acc (i : Int)) (acc ++ dropL (l.drop i) s) := by
 induction m generalizing i acc with
 | zero =>
  rw [List.drop_eq_nil_of_le (by omega)]
  refine Ev.step (fun _ => rfl) (Ev.neg (by omega) (ev_cast (Ev.now _) ?_))
  simp [dropL]
 | succ m ih =>
  have hi : i < l.length := by omega
  refine Ev.step (fun _ => rfl) (Ev.pos (by omega) (Ev.pos (by omega) ?_))
  rw [rdOf_nth, nth_get hi, w64 (n := (i : Int) + 1) (by omega) (by omega), List.drop_eq_getElem_cons hi]
  by_cases h : l[i] = s
  ·refine Ev.pos ((list_eq _ _).2 h) (ev_cast (ih (i + 1) (by omega) acc (by omega)) ?_)
   unfold dropL
   rw [List.filter_cons, if_neg (by simp [h])]
  ·refine Ev.neg (fun e => h ((list_eq _ _).1 e)) (Ev.pos (by omega) (ev_cast (ih (i + 1) (by omega) (acc ++ [l[i]]) (by simp; omega)) ?_))
   unfold dropL
   rw [List.filter_cons, if_pos (by simp [h]), List.append_assoc]
   rfl
theorem refWithout_ev (l : List ByteArray) (s : ByteArray) (hl : l.length ≤ 1000000) : Ev (fun k => letterlockref7_without.f k l s) (dropL l s) := by
 have := refWithout_loop l s hl l.length 0 (by omega) [] (Nat.zero_le _)
 rw [List.drop_zero, List.nil_append] at this
 exact this
def insG (s : ByteArray) : List ByteArray → List ByteArray
 | [] => [s]
 | a :: l => if ltB s a = true then s :: a :: l else a :: insG s l
theorem insG_eq {l : List ByteArray} {s : ByteArray} (hr : risesL l = true) (hs : s ∉ l) : insG s l = insL l s := by
 induction l with
 | nil => rfl
 | cons a l ih =>
  have hc := rises_cons.1 hr
  have hne : a ≠ s := fun e => hs (e ▸ List.mem_cons_self)
  unfold insL below above
  rw [insG, List.takeWhile_cons, List.dropWhile_cons]
  by_cases h : ltB s a = true
  ·rw [if_pos h, if_neg (by rw [ltB_asymm h]; simp), if_neg (by rw [ltB_asymm h]; simp)]
   rfl
  ·have h2 : ltB a s = true := ltB_tri (by simpa using h) hne.symm
   rw [if_neg h, if_pos h2, if_pos h2, ih hc.2 (fun e => hs (List.mem_cons_of_mem _ e))]
   rfl
theorem refLessB (a b : ByteArray) (ha : a.size ≤ 1000000) (hb : b.size ≤ 1000000) : Ev (fun k => letterlockref1_Less.f k a b) (ltB a b) := refLess_ev a b ha hb
theorem refWith_true (l : List ByteArray) (s : ByteArray) (hl : l.length ≤ 1000000) (m i : Nat) (hm : i + m = l.length) (acc : List ByteArray) (ha : acc.length ≤ i + 1) :
  Ev (fun k => letterlockref7_with.l0 k l s acc true (i : Int)) (acc ++ l.drop i) := by
 induction m generalizing i acc with
 | zero =>
  rw [List.drop_eq_nil_of_le (by omega), List.append_nil]
  exact Ev.step (fun _ => rfl) (Ev.neg (by omega) (Ev.pos rfl (Ev.now _)))
 | succ m ih =>
  have hi : i < l.length := by omega
  refine Ev.step (fun _ => rfl) (Ev.pos (by omega) (Ev.pos rfl (Ev.pos (by omega) (Ev.pos (by omega) ?_))))
  rw [rdOf_nth, nth_get hi, w64 (n := (i : Int) + 1) (by omega) (by omega), List.drop_eq_getElem_cons hi]
  refine ev_cast (ih (i + 1) (by omega) (acc ++ [l[i]]) (by simp; omega)) ?_
  rw [List.append_assoc]; rfl
theorem refWith_false (l : List ByteArray) (s : ByteArray) (hl : l.length ≤ 1000000) (hs : s.size ≤ 1000000) (hz : ∀ x ∈ l, x.size ≤ 1000000) (m i : Nat) (hm : i + m = l.length) (acc : List ByteArray) (ha : acc.length ≤ i) :
  Ev (fun k => letterlockref7_with.l0 k l s acc false (i : Int)) (acc ++ insG s (l.drop i)) := by
 induction m generalizing i acc with
 | zero =>
  rw [List.drop_eq_nil_of_le (by omega)]
  exact Ev.step (fun _ => rfl) (Ev.neg (by omega) (Ev.neg (by simp) (Ev.pos (by omega) (Ev.now _))))
 | succ m ih =>
  have hi : i < l.length := by omega
  have hzi := hz l[i] (List.getElem_mem hi)
  refine Ev.step (fun _ => rfl) (Ev.pos (by omega) (Ev.neg (by simp) (Ev.pos (by omega) ?_)))
  rw [rdOf_nth, nth_get hi, w64 (n := (i : Int) + 1) (by omega) (by omega), List.drop_eq_getElem_cons hi, insG]
  refine Ev.bind (refLessB s l[i] hs hzi) ?_
  cases h : ltB s l[i] with
  | true =>
   rw [if_pos rfl]
   refine Ev.pos rfl (Ev.pos (by omega) (Ev.put rfl (Ev.pos (by simp; omega) ?_)))
   refine ev_cast (refWith_true l s hl m (i + 1) (by omega) (acc ++ [s] ++ [l[i]]) (by simp; omega)) ?_
   simp
  | false =>
   rw [if_neg (by simp)]
   refine Ev.neg (by simp) (Ev.pos (by omega) ?_)
   refine ev_cast (ih (i + 1) (by omega) (acc ++ [l[i]]) (by simp; omega)) ?_
   rw [List.append_assoc]; rfl
theorem refWith_ev (l : List ByteArray) (s : ByteArray) (hl : l.length ≤ 1000000) (hs : s.size ≤ 1000000) (hz : ∀ x ∈ l, x.size ≤ 1000000) (hr : risesL l = true) (hn : s ∉ l) : Ev (fun k => letterlockref7_with.f k l s) (insL l s) := by
 have := refWith_false l s hl hs hz l.length 0 (by omega) [] (Nat.zero_le _)
 rw [List.drop_zero, insG_eq hr hn, List.nil_append] at this
 exact this
end Go.Proofs.YtfhanoloaejmkaaDoor.Ref
end
