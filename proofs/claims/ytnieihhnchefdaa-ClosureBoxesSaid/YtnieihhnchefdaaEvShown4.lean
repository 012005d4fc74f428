/- The example at the head of chapter 4's statements, and what closure.Apart comes to at right terms. -/
import Derived.Test.YtnieihhnchefdaaEvDerives
import Derived.Test.YtnieihhnchefdaaCloseLaws
namespace Go.Proofs.Ytnieihhnchefdaa.Ref
open Go.RowKit Go.Proofs.Ytnieihhnchefdaa Go.Proofs.Ytnieihhnchefdaa.PA Go.Proofs.YtnieihhnchefdaaW.PrintWords Go.Proofs.YtnieihhnchefdaaW.PrintLast
set_option linter.unusedVariables false

theorem putL_zero : putL 0 = [0] := by unfold putL; rw [beBytes_zero]; rfl
theorem putL_one : putL 1 = [1, 1] := by unfold putL; rw [beBytes_pos (by decide), show 1 / 256 = 0 from rfl, beBytes_zero]; rfl
theorem putL_small : (putL 0).length ≤ 9 ∧ (putL 1).length ≤ 9 := ⟨putL_len (by decide), putL_len (by decide)⟩
theorem shown4_val : letterlocklaw4_shown.f = some true := by
  have e1 : (⟨#[115, 97, 0, 116, 1, 1, 120]⟩ : ByteArray) = tm (.two .s (.atom 0) (.text [120])) := bs_inj (by
    rw [bytes_tm]; simp only [enc, putT, List.length_singleton, putL_zero, putL_one]; rfl)
  have e2 : (⟨#[97, 0]⟩ : ByteArray) = tm (.atom 0) := bs_inj (by rw [bytes_tm]; simp only [enc, putL_zero]; rfl)
  have e3 : (⟨#[116, 1, 1, 120]⟩ : ByteArray) = tm (.text [120]) := bs_inj (by rw [bytes_tm]; simp only [enc, putT, List.length_singleton, putL_one]; rfl)
  have e4 : (⟨#[115, 97, 0, 97, 1, 1]⟩ : ByteArray) = tm (.two .s (.atom 0) (.atom 1)) := bs_inj (by rw [bytes_tm]; simp only [enc, putL_zero, putL_one]; rfl)
  have e5 : (⟨#[97, 1, 1]⟩ : ByteArray) = tm (.atom 1) := bs_inj (by rw [bytes_tm]; simp only [enc, putL_one]; rfl)
  have hw : ∀ t : T, ok 2 t → (enc t).length ≤ 4000 → Wf t := fun t h1 h2 => ⟨ok_mono h1 (by omega), h2⟩
  have o0 : ∀ d n : Nat, n < 2 → ok (d + 1) (.atom n) := fun d n h => show n < 18446744073709551616 by omega
  have ot : ∀ d : Nat, ok (d + 1) (.text [120]) := fun d => show [(120 : UInt8)].length ≤ 4000 by simp
  have w1 : Wf (.two .s (.atom 0) (.text [120])) := hw _ ⟨o0 0 0 (by omega), ot 0, fun e => by simp at e⟩ (by simp [enc, putT, putL_zero, putL_one])
  have w2 : Wf (.atom 0) := hw _ (o0 1 0 (by omega)) (by simp [enc, putL_zero])
  have w3 : Wf (.text [120]) := hw _ (ot 1) (by simp [enc, putT, putL_one])
  have w4 : Wf (.two .s (.atom 0) (.atom 1)) := hw _ ⟨o0 0 0 (by omega), o0 0 1 (by omega), fun e => by simp at e⟩ (by simp [enc, putL_zero, putL_one])
  have w5 : Wf (.atom 1) := hw _ (o0 1 1 (by omega)) (by simp [enc, putL_one])
  have d1 := derives_tm (ts := [T.two .s (.atom 0) (.text [120]), .atom 0]) (t := .text [120]) (fun u hu => by
    rcases List.mem_cons.1 hu with rfl | hu
    · exact w1
    · rw [List.mem_singleton.1 hu]; exact w2) (by simp) w3
  have d2 := derives_tm (ts := [T.two .s (.atom 0) (.atom 1)]) (t := .atom 1) (fun u hu => by rw [List.mem_singleton.1 hu]; exact w4) (by simp) w5
  have hcl : ClosedT [T.two .s (.atom 0) (.atom 1)] := by
    intro t ht x hx
    rw [List.mem_singleton.1 ht] at hx
    simp [gives, tog] at hx
  rw [tog_closedT hcl, show tog [T.two .s (.atom 0) (.atom 1)] (.atom 1) = false from contains_not (by simp)] at d2
  rw [show tog (hadL [T.two .s (.atom 0) (.text [120]), .atom 0]) (.text [120]) = true from rfl] at d1
  unfold letterlocklaw4_shown.f
  rw [e1, e2, e3, e4, e5]
  simp only [List.map_cons, List.map_nil] at d1 d2
  rw [d1]
  simp only [Option.bind_some]
  rw [d2]
  rfl
theorem apart_tm {ts : List T} (h : ∀ t ∈ ts, Wf t) (hl : ts.length ≤ 200) : closure_Apart.f (ts.map tm) = some (LT (hadL ts), 0) := by
  unfold closure_Apart.f
  rw [if_pos]
  · unfold apartF
    rw [if_pos (right_all h), if_neg (by rw [List.length_map]; omega), termsOf_tm h]
  · refine ⟨by rw [List.length_map]; omega, List.all_eq_true.2 fun s hs => ?_⟩
    obtain ⟨u, hu, rfl⟩ := List.mem_map.1 hs
    rw [size_tm]
    have := (h u hu).2
    exact decide_eq_true (by omega)
theorem big_tm {ts : List T} (h : ∀ t ∈ ts, Wf t) (hl : 200 < ts.length) (hl2 : ts.length ≤ 1000000) : closure_Apart.f (ts.map tm) = some ([], 10) ∧ ∀ s : ByteArray, s.size ≤ 9223372036854774000 → closure_Derives.f (ts.map tm) s = some (false, 10) := by
  have hs : (ts.map tm).all (fun s => decide (s.size ≤ 9223372036854774000)) = true := by
    refine List.all_eq_true.2 fun s hs => ?_
    obtain ⟨u, hu, rfl⟩ := List.mem_map.1 hs
    rw [size_tm]
    have := (h u hu).2
    exact decide_eq_true (by omega)
  constructor
  · unfold closure_Apart.f
    rw [if_pos ⟨by rw [List.length_map]; omega, hs⟩]
    unfold apartF
    rw [if_pos (right_all h), if_pos (by rw [List.length_map]; omega)]
  · intro s h9
    unfold closure_Derives.f
    rw [if_pos ⟨by rw [List.length_map]; omega, hs, h9⟩]
    unfold derivesF
    rw [if_pos (right_all h), if_pos (by rw [List.length_map]; omega)]

/-! ### More rows -/
theorem snoc_tm (ts : List T) (x : T) : (([] : List ByteArray) ++ ts.map tm) ++ [tm x] = (ts ++ [x]).map tm := by simp
theorem derives_more {ts : List T} {x t : T} (h : ∀ t ∈ ts, Wf t) (hx : Wf x) (hl : ts.length < 200) (ht : Wf t) : closure_Derives.f ((([] : List ByteArray) ++ ts.map tm) ++ [tm x]) (tm t) = some (tog (hadL (ts ++ [x])) t, 0) := by
  rw [snoc_tm]
  refine derives_tm (fun u hu => ?_) (by rw [List.length_append, List.length_singleton]; omega) ht
  rcases List.mem_append.1 hu with hu | hu
  · exact h u hu
  · rw [List.mem_singleton.1 hu]; exact hx
theorem wf_sub {t : T} (h : Wf t) : ∀ u ∈ subT t, Wf u := by
  induction t with
  | atom n => intro u hu; simp only [subT, List.mem_singleton] at hu; rw [hu]; exact h
  | text n => intro u hu; simp only [subT, List.mem_singleton] at hu; rw [hu]; exact h
  | one k a ih =>
    intro u hu
    simp only [subT, List.mem_cons] at hu
    rcases hu with rfl | hu
    · exact h
    · exact ih (wf_one h) u hu
  | two k a b iha ihb =>
    intro u hu
    simp only [subT, List.mem_cons, List.mem_append] at hu
    rcases hu with rfl | hu | hu
    · exact h
    · exact iha (wf_two h).1 u hu
    · exact ihb (wf_two h).2 u hu
theorem wf_had {ts : List T} (h : ∀ t ∈ ts, Wf t) : ∀ t ∈ hadL ts, Wf t := by
  intro t ht
  obtain ⟨u, hu, h1⟩ := List.mem_flatMap.1 (hadL_sub ts t ht)
  exact wf_sub (h u hu) t h1
theorem had_few {ts : List T} (h : ∀ t ∈ ts, Wf t) (hl : ts.length ≤ 200) : (hadL ts).length ≤ 800000 := by
  refine hadL_len (ts.map tm) (by rw [List.length_map]; exact hl) (hadL ts) (hadL_nodup ts) (fun x hx => ?_)
  rw [termsOf_tm h]; exact hx

end Go.Proofs.Ytnieihhnchefdaa.Ref
