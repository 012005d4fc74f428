-- printed by a program of this session (a copy of print.py that takes stubs) out of the translation; Lean checks it
import Derived.Test.YtngdpoghfacokaaDoorPAx0
import Derived.Test.YtngdpoghfacokaaDoorPAx4
import Derived.Test.YtngdpoghfacokaaDoorPAx5
namespace Go.Proofs.YtngdpoghfacokaaDoor.PA
open Go.RowKit Go.Proofs.YtngdpoghfacokaaDoorW.PrintWords Go.Proofs.YtngdpoghfacokaaDoorW.PrintLast Go.Proofs.YtngdpoghfacokaaDoorW.PrintMore
attribute [local go_sem] max2_int min2_int max_two min_two max_three min_three max_four min_four   -- for this text's walks alone
set_option linter.unusedVariables false
set_option linter.unusedSimpArgs false

/-! ### letterlocklaw1_NamePaths: function 11 -/
def letterlocklaw1_NamePaths.j0 : Nat → Int → ByteArray → ByteArray → Bool → Option (Bool)
  | 0, _, _, _, _ => none
  | k + 1, x2, x8, x9, x87 => if x87 = true then (some false) else ((name_Runes.f x8).bind fun bt358 => ((letterlocklaw1_pick.f x2 (wrap64 ((bt358.1.length : Int) + 1))).bind fun t362 => (if 0 ≤ t362 then (if t362 ≤ (bt358.1.length : Int) then ((name_Make.f (bt358.1.take (t362 : Int).toNat)).bind fun bt367 => ((name_Make.f (bt358.1.drop (t362 : Int).toNat)).bind fun bt373 => ((some (([(⟨#[65]⟩ : ByteArray), (⟨#[32]⟩ : ByteArray), (⟨#[47]⟩ : ByteArray), (⟨#[95]⟩ : ByteArray), (⟨#[128]⟩ : ByteArray), (⟨#[195]⟩ : ByteArray), (⟨#[195, 151]⟩ : ByteArray), (⟨#[207, 130, 204, 129]⟩ : ByteArray)] : List ByteArray) : List ByteArray)).bind fun y375 => ((letterlocklaw1_pick.f x2 (y375.length : Int)).bind fun t378 => (if 0 ≤ t378 then (if t378 < (y375.length : Int) then (if bt367.1.size + (rdOf ByteArray.empty y375 t378).size ≤ 9223372036854775807 then (if (bt367.1 ++ (rdOf ByteArray.empty y375 t378)).size + bt373.1.size ≤ 9223372036854775807 then (if ((bt367.1 ++ (rdOf ByteArray.empty y375 t378)) ++ bt373.1).size + 1 ≤ 9223372036854775807 then (if (((bt367.1 ++ (rdOf ByteArray.empty y375 t378)) ++ bt373.1) ++ (⟨#[47]⟩ : ByteArray)).size + x9.size ≤ 9223372036854775807 then ((name_Split.f ((((bt367.1 ++ (rdOf ByteArray.empty y375 t378)) ++ bt373.1) ++ (⟨#[47]⟩ : ByteArray)) ++ x9)).bind fun bt380 => ((name_Right.f ((bt367.1 ++ (rdOf ByteArray.empty y375 t378)) ++ bt373.1)).bind fun t383 => (if t383 = true then (some false) else (if bt380.2.2 = 3 then ((name_Right.f (⟨#[]⟩ : ByteArray)).bind fun t384 => (if t384 = true then (some false) else (if (bt358.1.length : Int) < 32 then (some true) else (if x8.size + 1 ≤ 9223372036854775807 then ((name_Right.f (x8 ++ (⟨#[97]⟩ : ByteArray))).bind fun t385 => (some (!t385))) else (none))))) else (some false))))) else (none)) else (none)) else (none)) else (none)) else (none)) else (none)))))) else (none)) else (none))))
def letterlocklaw1_NamePaths.f (k : Nat) (l0 : List Int) (l1 : List Int) (a2 : Int) : Option (Bool) := (letterlocklaw1_shown.f).bind fun t345 => (if t345 = true then ((letterlocklaw1_named.f k l0).bind fun t346 => ((letterlocklaw1_named.f k l1).bind fun t347 => ((name_Path.f t346 t347).bind fun bt348 => ((name_Split.f bt348.1).bind fun bt350 => ((name_Right.f t346).bind fun t353 => (if t353 = true then ((name_Right.f t347).bind fun t354 => (if t354 = true then (if bt348.2 = 0 then (if bt350.2.2 = 0 then (if bt350.1.toList = t346.toList then (if bt350.2.1.toList = t347.toList then ((name_Right.f bt348.1).bind fun t355 => (if t355 = true then (letterlocklaw1_NamePaths.j0 k a2 t346 t347 true) else ((name_Fold.f t346).bind fun t356 => (if t356.toList = t346.toList then ((name_Fold.f bt348.1).bind fun t357 => (letterlocklaw1_NamePaths.j0 k a2 t346 t347 (t357.toList != bt348.1.toList))) else (letterlocklaw1_NamePaths.j0 k a2 t346 t347 true))))) else (letterlocklaw1_NamePaths.j0 k a2 t346 t347 true)) else (letterlocklaw1_NamePaths.j0 k a2 t346 t347 true)) else (letterlocklaw1_NamePaths.j0 k a2 t346 t347 true)) else (letterlocklaw1_NamePaths.j0 k a2 t346 t347 true)) else (letterlocklaw1_NamePaths.j0 k a2 t346 t347 true))) else (letterlocklaw1_NamePaths.j0 k a2 t346 t347 true))))))) else (some false))
theorem letterlocklaw1_NamePaths.mono_l : ∀ k, (∀ y0 y1 y2 y3, LeO (letterlocklaw1_NamePaths.j0 k y0 y1 y2 y3) (letterlocklaw1_NamePaths.j0 (k + 1) y0 y1 y2 y3))
  | 0 => fun _ _ _ _ r h => by simp [letterlocklaw1_NamePaths.j0] at h
  | k + 1 => by
    have ih0 := letterlocklaw1_NamePaths.mono_l k
    · intro y0 y1 y2 y3
      unfold letterlocklaw1_NamePaths.j0
      repeat' first
      | (with_reducible exact ih0 _ _ _ _)
      | (with_reducible exact letterlocklaw1_named.mono _ _)
      | (with_reducible exact LeO.refl _)
      | (with_reducible exact LeO.none _)
      | (with_reducible refine LeO.ite ?_ ?_)
      | (with_reducible refine LeO.bind ?_ (fun _ => ?_))
      | exact ih0 _ _ _ _
      | exact letterlocklaw1_named.mono _ _
      | exact LeO.none _
      | refine LeO.ite ?_ ?_
      | refine LeO.bind ?_ (fun _ => ?_)
theorem letterlocklaw1_NamePaths.mono : ∀ a0 a1 a2 k, LeO (letterlocklaw1_NamePaths.f k a0 a1 a2) (letterlocklaw1_NamePaths.f (k + 1) a0 a1 a2) := by
  intro a0 a1 a2 k
  have ih0 := letterlocklaw1_NamePaths.mono_l k
  unfold letterlocklaw1_NamePaths.f
  repeat' first
      | (with_reducible exact ih0 _ _ _ _)
      | (with_reducible exact letterlocklaw1_named.mono _ _)
      | (with_reducible exact LeO.refl _)
      | (with_reducible exact LeO.none _)
      | (with_reducible refine LeO.ite ?_ ?_)
      | (with_reducible refine LeO.bind ?_ (fun _ => ?_))
      | exact ih0 _ _ _ _
      | exact letterlocklaw1_named.mono _ _
      | exact LeO.none _
      | refine LeO.ite ?_ ?_
      | refine LeO.bind ?_ (fun _ => ?_)
set_option maxHeartbeats 8000000 in
set_option maxRecDepth 100000 in
theorem letterlocklaw1_NamePaths.calls (k : Nat) (A0 : Option Addr) (c0 : Nat) (l0 : List Int) (A1 : Option Addr) (c1 : Nat) (l1 : List Int) (a2 : Int) (r : Bool) (w : World) (HTB : Aside0 (Tabs w)) (hr0 : Kd.C (Kd.int .i64) w A0 l0.length l0) (hc0 : l0.length ≤ c0) (hr1 : Kd.C (Kd.int .i64) w A1 l1.length l1) (hc1 : l1.length ≤ c1) (h : letterlocklaw1_NamePaths.f k l0 l1 a2 = some r) :
    Calls Tryd.prog 11 #[.slice A0 l0.length c0, .slice A1 l1.length c1, .int .i64 a2] w fun e w' => e = .returned (.bool r) ∧ Below w.heap.size w w' := by
  have HR0 := Aside0.mk hr0
  have HC0 := Aside0.mk hc0
  clear hr0 hc0
  have HR1 := Aside0.mk hr1
  have HC1 := Aside0.mk hc1
  clear hr1 hc1
  have HB := Aside0.mk (Below.refl w.heap.size w)
  have H : ((letterlocklaw1_shown.f).bind fun t345 => (if t345 = true then ((letterlocklaw1_named.f k l0).bind fun t346 => ((letterlocklaw1_named.f k l1).bind fun t347 => ((name_Path.f t346 t347).bind fun bt348 => ((name_Split.f bt348.1).bind fun bt350 => ((name_Right.f t346).bind fun t353 => (if t353 = true then ((name_Right.f t347).bind fun t354 => (if t354 = true then (if bt348.2 = 0 then (if bt350.2.2 = 0 then (if bt350.1.toList = t346.toList then (if bt350.2.1.toList = t347.toList then ((name_Right.f bt348.1).bind fun t355 => (if t355 = true then (letterlocklaw1_NamePaths.j0 k a2 t346 t347 true) else ((name_Fold.f t346).bind fun t356 => (if t356.toList = t346.toList then ((name_Fold.f bt348.1).bind fun t357 => (letterlocklaw1_NamePaths.j0 k a2 t346 t347 (t357.toList != bt348.1.toList))) else (letterlocklaw1_NamePaths.j0 k a2 t346 t347 true))))) else (letterlocklaw1_NamePaths.j0 k a2 t346 t347 true)) else (letterlocklaw1_NamePaths.j0 k a2 t346 t347 true)) else (letterlocklaw1_NamePaths.j0 k a2 t346 t347 true)) else (letterlocklaw1_NamePaths.j0 k a2 t346 t347 true)) else (letterlocklaw1_NamePaths.j0 k a2 t346 t347 true))) else (letterlocklaw1_NamePaths.j0 k a2 t346 t347 true))))))) else (some false))) = some r := h
  clear h
  replace H := Option.bind_eq_some_iff.mp H
  obtain ⟨t345, A40, H⟩ := H
  replace H : (if t345 = true then ((letterlocklaw1_named.f k l0).bind fun t346 => ((letterlocklaw1_named.f k l1).bind fun t347 => ((name_Path.f t346 t347).bind fun bt348 => ((name_Split.f bt348.1).bind fun bt350 => ((name_Right.f t346).bind fun t353 => (if t353 = true then ((name_Right.f t347).bind fun t354 => (if t354 = true then (if bt348.2 = 0 then (if bt350.2.2 = 0 then (if bt350.1.toList = t346.toList then (if bt350.2.1.toList = t347.toList then ((name_Right.f bt348.1).bind fun t355 => (if t355 = true then (letterlocklaw1_NamePaths.j0 k a2 t346 t347 true) else ((name_Fold.f t346).bind fun t356 => (if t356.toList = t346.toList then ((name_Fold.f bt348.1).bind fun t357 => (letterlocklaw1_NamePaths.j0 k a2 t346 t347 (t357.toList != bt348.1.toList))) else (letterlocklaw1_NamePaths.j0 k a2 t346 t347 true))))) else (letterlocklaw1_NamePaths.j0 k a2 t346 t347 true)) else (letterlocklaw1_NamePaths.j0 k a2 t346 t347 true)) else (letterlocklaw1_NamePaths.j0 k a2 t346 t347 true)) else (letterlocklaw1_NamePaths.j0 k a2 t346 t347 true)) else (letterlocklaw1_NamePaths.j0 k a2 t346 t347 true))) else (letterlocklaw1_NamePaths.j0 k a2 t346 t347 true))))))) else (some false)) = some r := H
  have A4 := Aside0.mk A40
  clear A40
  by_cases c5 : t345 = true
  · subst c5
    have H1 : ((letterlocklaw1_named.f k l0).bind fun t346 => ((letterlocklaw1_named.f k l1).bind fun t347 => ((name_Path.f t346 t347).bind fun bt348 => ((name_Split.f bt348.1).bind fun bt350 => ((name_Right.f t346).bind fun t353 => (if t353 = true then ((name_Right.f t347).bind fun t354 => (if t354 = true then (if bt348.2 = 0 then (if bt350.2.2 = 0 then (if bt350.1.toList = t346.toList then (if bt350.2.1.toList = t347.toList then ((name_Right.f bt348.1).bind fun t355 => (if t355 = true then (letterlocklaw1_NamePaths.j0 k a2 t346 t347 true) else ((name_Fold.f t346).bind fun t356 => (if t356.toList = t346.toList then ((name_Fold.f bt348.1).bind fun t357 => (letterlocklaw1_NamePaths.j0 k a2 t346 t347 (t357.toList != bt348.1.toList))) else (letterlocklaw1_NamePaths.j0 k a2 t346 t347 true))))) else (letterlocklaw1_NamePaths.j0 k a2 t346 t347 true)) else (letterlocklaw1_NamePaths.j0 k a2 t346 t347 true)) else (letterlocklaw1_NamePaths.j0 k a2 t346 t347 true)) else (letterlocklaw1_NamePaths.j0 k a2 t346 t347 true)) else (letterlocklaw1_NamePaths.j0 k a2 t346 t347 true))) else (letterlocklaw1_NamePaths.j0 k a2 t346 t347 true))))))) = some r := by rw [if_pos rfl] at H; exact H
    clear H
    have H := H1
    clear H1
    replace H := Option.bind_eq_some_iff.mp H
    obtain ⟨t346, A60, H⟩ := H
    replace H : ((letterlocklaw1_named.f k l1).bind fun t347 => ((name_Path.f t346 t347).bind fun bt348 => ((name_Split.f bt348.1).bind fun bt350 => ((name_Right.f t346).bind fun t353 => (if t353 = true then ((name_Right.f t347).bind fun t354 => (if t354 = true then (if bt348.2 = 0 then (if bt350.2.2 = 0 then (if bt350.1.toList = t346.toList then (if bt350.2.1.toList = t347.toList then ((name_Right.f bt348.1).bind fun t355 => (if t355 = true then (letterlocklaw1_NamePaths.j0 k a2 t346 t347 true) else ((name_Fold.f t346).bind fun t356 => (if t356.toList = t346.toList then ((name_Fold.f bt348.1).bind fun t357 => (letterlocklaw1_NamePaths.j0 k a2 t346 t347 (t357.toList != bt348.1.toList))) else (letterlocklaw1_NamePaths.j0 k a2 t346 t347 true))))) else (letterlocklaw1_NamePaths.j0 k a2 t346 t347 true)) else (letterlocklaw1_NamePaths.j0 k a2 t346 t347 true)) else (letterlocklaw1_NamePaths.j0 k a2 t346 t347 true)) else (letterlocklaw1_NamePaths.j0 k a2 t346 t347 true)) else (letterlocklaw1_NamePaths.j0 k a2 t346 t347 true))) else (letterlocklaw1_NamePaths.j0 k a2 t346 t347 true)))))) = some r := H
    have A6 := Aside0.mk A60
    clear A60
    replace H := Option.bind_eq_some_iff.mp H
    obtain ⟨t347, A70, H⟩ := H
    replace H : ((name_Path.f t346 t347).bind fun bt348 => ((name_Split.f bt348.1).bind fun bt350 => ((name_Right.f t346).bind fun t353 => (if t353 = true then ((name_Right.f t347).bind fun t354 => (if t354 = true then (if bt348.2 = 0 then (if bt350.2.2 = 0 then (if bt350.1.toList = t346.toList then (if bt350.2.1.toList = t347.toList then ((name_Right.f bt348.1).bind fun t355 => (if t355 = true then (letterlocklaw1_NamePaths.j0 k a2 t346 t347 true) else ((name_Fold.f t346).bind fun t356 => (if t356.toList = t346.toList then ((name_Fold.f bt348.1).bind fun t357 => (letterlocklaw1_NamePaths.j0 k a2 t346 t347 (t357.toList != bt348.1.toList))) else (letterlocklaw1_NamePaths.j0 k a2 t346 t347 true))))) else (letterlocklaw1_NamePaths.j0 k a2 t346 t347 true)) else (letterlocklaw1_NamePaths.j0 k a2 t346 t347 true)) else (letterlocklaw1_NamePaths.j0 k a2 t346 t347 true)) else (letterlocklaw1_NamePaths.j0 k a2 t346 t347 true)) else (letterlocklaw1_NamePaths.j0 k a2 t346 t347 true))) else (letterlocklaw1_NamePaths.j0 k a2 t346 t347 true))))) = some r := H
    have A7 := Aside0.mk A70
    clear A70
    replace H := Option.bind_eq_some_iff.mp H
    obtain ⟨⟨t348, t349⟩, A80, H⟩ := H
    replace H : ((name_Split.f t348).bind fun bt350 => ((name_Right.f t346).bind fun t353 => (if t353 = true then ((name_Right.f t347).bind fun t354 => (if t354 = true then (if t349 = 0 then (if bt350.2.2 = 0 then (if bt350.1.toList = t346.toList then (if bt350.2.1.toList = t347.toList then ((name_Right.f t348).bind fun t355 => (if t355 = true then (letterlocklaw1_NamePaths.j0 k a2 t346 t347 true) else ((name_Fold.f t346).bind fun t356 => (if t356.toList = t346.toList then ((name_Fold.f t348).bind fun t357 => (letterlocklaw1_NamePaths.j0 k a2 t346 t347 (t357.toList != t348.toList))) else (letterlocklaw1_NamePaths.j0 k a2 t346 t347 true))))) else (letterlocklaw1_NamePaths.j0 k a2 t346 t347 true)) else (letterlocklaw1_NamePaths.j0 k a2 t346 t347 true)) else (letterlocklaw1_NamePaths.j0 k a2 t346 t347 true)) else (letterlocklaw1_NamePaths.j0 k a2 t346 t347 true)) else (letterlocklaw1_NamePaths.j0 k a2 t346 t347 true))) else (letterlocklaw1_NamePaths.j0 k a2 t346 t347 true)))) = some r := H
    have A8 := Aside0.mk A80
    clear A80
    replace H := Option.bind_eq_some_iff.mp H
    obtain ⟨⟨t350, t351, t352⟩, A90, H⟩ := H
    replace H : ((name_Right.f t346).bind fun t353 => (if t353 = true then ((name_Right.f t347).bind fun t354 => (if t354 = true then (if t349 = 0 then (if t352 = 0 then (if t350.toList = t346.toList then (if t351.toList = t347.toList then ((name_Right.f t348).bind fun t355 => (if t355 = true then (letterlocklaw1_NamePaths.j0 k a2 t346 t347 true) else ((name_Fold.f t346).bind fun t356 => (if t356.toList = t346.toList then ((name_Fold.f t348).bind fun t357 => (letterlocklaw1_NamePaths.j0 k a2 t346 t347 (t357.toList != t348.toList))) else (letterlocklaw1_NamePaths.j0 k a2 t346 t347 true))))) else (letterlocklaw1_NamePaths.j0 k a2 t346 t347 true)) else (letterlocklaw1_NamePaths.j0 k a2 t346 t347 true)) else (letterlocklaw1_NamePaths.j0 k a2 t346 t347 true)) else (letterlocklaw1_NamePaths.j0 k a2 t346 t347 true)) else (letterlocklaw1_NamePaths.j0 k a2 t346 t347 true))) else (letterlocklaw1_NamePaths.j0 k a2 t346 t347 true))) = some r := H
    have A9 := Aside0.mk A90
    clear A90
    have HC10 := Aside0.mk H
    clear H
    go_enter Tryd.func11, Tryd.ntmps11
    go_upto_region 8 with (first | ((with_reducible refine gate_callee (f := 12) rfl ?_); refine goesL_ (some 27) rfl rfl Tryd.func12 (by kernel_rfl) rfl #[] rfl (by (try simp only [List.map_toArray, List.map_cons, List.map_nil]); first | done | rfl | (simp only [List.length_drop, List.length_take]; rfl)) ?_; (with_reducible refine (letterlocklaw1_shown.calls  true _ ?side1 A4.out).mono ?_); (case side1 => exact ⟨Tabs.below HTB.out (by repeat (first | (with_reducible first | exact HB.out | apply below_alloc | apply pw_below_drewN | apply below_drew1) | exact HB.out))⟩); rintro e w11 ⟨rfl, hb⟩; refine ⟨_, rfl, ?_⟩; have n0_ := Aside0.mk (below_step (by repeat (first | (with_reducible first | exact HB.out | apply below_alloc | apply pw_below_drewN | apply below_drew1) | exact HB.out)) hb); clear HB; have HB := n0_; clear n0_; (try clear hb); (try clear hb2); (try clear hk); (try clear hi)) | ((with_reducible refine gate_callee (f := 16) rfl ?_); refine goesL_ (some 31) rfl rfl Tryd.func16 (by kernel_rfl) rfl #[.slice A0 l0.length c0] rfl (by (try simp only [List.map_toArray, List.map_cons, List.map_nil]); first | done | rfl | (simp only [List.length_drop, List.length_take]; rfl)) ?_; (with_reducible refine (letterlocklaw1_named.calls k _ _ l0 t346 _ ?side1 ?side2 A6.out).mono ?_); (case side1 => repeat (first | exact (Kd.C_below HR0.out HB.out) | (with_reducible refine Kd.C_alloc ?_ _) | (with_reducible refine Kd.C_drewN ?_ _) | (with_reducible refine Kd.C_drew ?_))); (case side2 => exact HC0.out); rintro e w12 ⟨rfl, hb⟩; refine ⟨_, rfl, ?_⟩; have n0_ := Aside0.mk (below_step (by repeat (first | (with_reducible first | exact HB.out | apply below_alloc | apply pw_below_drewN | apply below_drew1) | exact HB.out)) hb); clear HB; have HB := n0_; clear n0_; (try clear hb); (try clear hb2); (try clear hk); (try clear hi)) | ((with_reducible refine gate_callee (f := 16) rfl ?_); refine goesL_ (some 33) rfl rfl Tryd.func16 (by kernel_rfl) rfl #[.slice A1 l1.length c1] rfl (by (try simp only [List.map_toArray, List.map_cons, List.map_nil]); first | done | rfl | (simp only [List.length_drop, List.length_take]; rfl)) ?_; (with_reducible refine (letterlocklaw1_named.calls k _ _ l1 t347 _ ?side1 ?side2 A7.out).mono ?_); (case side1 => repeat (first | exact (Kd.C_below HR1.out HB.out) | (with_reducible refine Kd.C_alloc ?_ _) | (with_reducible refine Kd.C_drewN ?_ _) | (with_reducible refine Kd.C_drew ?_))); (case side2 => exact HC1.out); rintro e w13 ⟨rfl, hb⟩; refine ⟨_, rfl, ?_⟩; have n0_ := Aside0.mk (below_step (by repeat (first | (with_reducible first | exact HB.out | apply below_alloc | apply pw_below_drewN | apply below_drew1) | exact HB.out)) hb); clear HB; have HB := n0_; clear n0_; (try clear hb); (try clear hb2); (try clear hk); (try clear hi)) | ((with_reducible refine gate_callee (f := 15) rfl ?_); refine goesL_ (some 37) rfl rfl Tryd.func15 (by kernel_rfl) rfl #[.string t346, .string t347] rfl (by (try simp only [List.map_toArray, List.map_cons, List.map_nil]); first | done | rfl | (simp only [List.length_drop, List.length_take]; rfl)) ?_; (with_reducible refine (name_Path.calls t346 t347 t348 t349 _ ?side1 A8.out).mono ?_); (case side1 => exact ⟨Tabs.below HTB.out (by repeat (first | (with_reducible first | exact HB.out | apply below_alloc | apply pw_below_drewN | apply below_drew1) | exact HB.out))⟩); rintro e w14 ⟨rfl, hb⟩; refine ⟨_, rfl, ?_⟩; have n0_ := Aside0.mk (below_step (by repeat (first | (with_reducible first | exact HB.out | apply below_alloc | apply pw_below_drewN | apply below_drew1) | exact HB.out)) hb); clear HB; have HB := n0_; clear n0_; (try clear hb); (try clear hb2); (try clear hk); (try clear hi)) | ((with_reducible refine gate_callee (f := 14) rfl ?_); refine goesL_ (some 42) rfl rfl Tryd.func14 (by kernel_rfl) rfl #[.string t348] rfl (by (try simp only [List.map_toArray, List.map_cons, List.map_nil]); first | done | rfl | (simp only [List.length_drop, List.length_take]; rfl)) ?_; (with_reducible refine (name_Split.calls t348 t350 t351 t352 _ ?side1 A9.out).mono ?_); (case side1 => exact ⟨Tabs.below HTB.out (by repeat (first | (with_reducible first | exact HB.out | apply below_alloc | apply pw_below_drewN | apply below_drew1) | exact HB.out))⟩); rintro e w15 ⟨rfl, hb⟩; refine ⟨_, rfl, ?_⟩; have n0_ := Aside0.mk (below_step (by repeat (first | (with_reducible first | exact HB.out | apply below_alloc | apply pw_below_drewN | apply below_drew1) | exact HB.out)) hb); clear HB; have HB := n0_; clear n0_; (try clear hb); (try clear hb2); (try clear hk); (try clear hi)))
    (try simp only [Act.put, List.setIfInBounds_toArray, List.set_cons_zero, List.set_cons_succ])
    go_cut [87] (fun v87 wc => ∃ (kq : Nat) (x87_9 : Bool), v87 = .bool x87_9 ∧ Aside0 (letterlocklaw1_NamePaths.j0 kq a2 t346 t347 x87_9 = some r) ∧ Aside0 (kq ≤ k) ∧ Aside0 (Below w.heap.size w wc))
    case first =>
      have H := HC10.out
      clear HC10
      replace H := Option.bind_eq_some_iff.mp H
      obtain ⟨t353, A160, H⟩ := H
      replace H : (if t353 = true then ((name_Right.f t347).bind fun t354 => (if t354 = true then (if t349 = 0 then (if t352 = 0 then (if t350.toList = t346.toList then (if t351.toList = t347.toList then ((name_Right.f t348).bind fun t355 => (if t355 = true then (letterlocklaw1_NamePaths.j0 k a2 t346 t347 true) else ((name_Fold.f t346).bind fun t356 => (if t356.toList = t346.toList then ((name_Fold.f t348).bind fun t357 => (letterlocklaw1_NamePaths.j0 k a2 t346 t347 (t357.toList != t348.toList))) else (letterlocklaw1_NamePaths.j0 k a2 t346 t347 true))))) else (letterlocklaw1_NamePaths.j0 k a2 t346 t347 true)) else (letterlocklaw1_NamePaths.j0 k a2 t346 t347 true)) else (letterlocklaw1_NamePaths.j0 k a2 t346 t347 true)) else (letterlocklaw1_NamePaths.j0 k a2 t346 t347 true)) else (letterlocklaw1_NamePaths.j0 k a2 t346 t347 true))) else (letterlocklaw1_NamePaths.j0 k a2 t346 t347 true)) = some r := H
      have A16 := Aside0.mk A160
      clear A160
      by_cases c17 : t353 = true
      · subst c17
        have H1 : ((name_Right.f t347).bind fun t354 => (if t354 = true then (if t349 = 0 then (if t352 = 0 then (if t350.toList = t346.toList then (if t351.toList = t347.toList then ((name_Right.f t348).bind fun t355 => (if t355 = true then (letterlocklaw1_NamePaths.j0 k a2 t346 t347 true) else ((name_Fold.f t346).bind fun t356 => (if t356.toList = t346.toList then ((name_Fold.f t348).bind fun t357 => (letterlocklaw1_NamePaths.j0 k a2 t346 t347 (t357.toList != t348.toList))) else (letterlocklaw1_NamePaths.j0 k a2 t346 t347 true))))) else (letterlocklaw1_NamePaths.j0 k a2 t346 t347 true)) else (letterlocklaw1_NamePaths.j0 k a2 t346 t347 true)) else (letterlocklaw1_NamePaths.j0 k a2 t346 t347 true)) else (letterlocklaw1_NamePaths.j0 k a2 t346 t347 true)) else (letterlocklaw1_NamePaths.j0 k a2 t346 t347 true))) = some r := by rw [if_pos rfl] at H; exact H
        clear H
        have H := H1
        clear H1
        replace H := Option.bind_eq_some_iff.mp H
        obtain ⟨t354, A180, H⟩ := H
        replace H : (if t354 = true then (if t349 = 0 then (if t352 = 0 then (if t350.toList = t346.toList then (if t351.toList = t347.toList then ((name_Right.f t348).bind fun t355 => (if t355 = true then (letterlocklaw1_NamePaths.j0 k a2 t346 t347 true) else ((name_Fold.f t346).bind fun t356 => (if t356.toList = t346.toList then ((name_Fold.f t348).bind fun t357 => (letterlocklaw1_NamePaths.j0 k a2 t346 t347 (t357.toList != t348.toList))) else (letterlocklaw1_NamePaths.j0 k a2 t346 t347 true))))) else (letterlocklaw1_NamePaths.j0 k a2 t346 t347 true)) else (letterlocklaw1_NamePaths.j0 k a2 t346 t347 true)) else (letterlocklaw1_NamePaths.j0 k a2 t346 t347 true)) else (letterlocklaw1_NamePaths.j0 k a2 t346 t347 true)) else (letterlocklaw1_NamePaths.j0 k a2 t346 t347 true)) = some r := H
        have A18 := Aside0.mk A180
        clear A180
        by_cases c19 : t354 = true
        · subst c19
          have H1 : (if t349 = 0 then (if t352 = 0 then (if t350.toList = t346.toList then (if t351.toList = t347.toList then ((name_Right.f t348).bind fun t355 => (if t355 = true then (letterlocklaw1_NamePaths.j0 k a2 t346 t347 true) else ((name_Fold.f t346).bind fun t356 => (if t356.toList = t346.toList then ((name_Fold.f t348).bind fun t357 => (letterlocklaw1_NamePaths.j0 k a2 t346 t347 (t357.toList != t348.toList))) else (letterlocklaw1_NamePaths.j0 k a2 t346 t347 true))))) else (letterlocklaw1_NamePaths.j0 k a2 t346 t347 true)) else (letterlocklaw1_NamePaths.j0 k a2 t346 t347 true)) else (letterlocklaw1_NamePaths.j0 k a2 t346 t347 true)) else (letterlocklaw1_NamePaths.j0 k a2 t346 t347 true)) = some r := by rw [if_pos rfl] at H; exact H
          clear H
          have H := H1
          clear H1
          by_cases c20 : t349 = 0
          · rw [if_pos c20] at H
            have c20b0 : (t349 == 0) = true := beq_iff_eq.mpr c20
            have c20b1 : (t349 != 0) = false := bne_eq_false_iff_eq.mpr c20
            clear c20
            (first | rw [c20b0] | (simp only [i64_w, i32_w]; rw [c20b0]) | skip)
            by_cases c21 : t352 = 0
            · rw [if_pos c21] at H
              have c21b0 : (t352 == 0) = true := beq_iff_eq.mpr c21
              have c21b1 : (t352 != 0) = false := bne_eq_false_iff_eq.mpr c21
              clear c21
              by_cases c22 : t350.toList = t346.toList
              · rw [if_pos c22] at H
                have c22b0 : (t350.toList == t346.toList) = true := beq_iff_eq.mpr c22
                have c22b1 : (t350.toList != t346.toList) = false := bne_eq_false_iff_eq.mpr c22
                clear c22
                by_cases c23 : t351.toList = t347.toList
                · rw [if_pos c23] at H
                  have c23b0 : (t351.toList == t347.toList) = true := beq_iff_eq.mpr c23
                  have c23b1 : (t351.toList != t347.toList) = false := bne_eq_false_iff_eq.mpr c23
                  clear c23
                  replace H := Option.bind_eq_some_iff.mp H
                  obtain ⟨t355, A240, H⟩ := H
                  replace H : (if t355 = true then (letterlocklaw1_NamePaths.j0 k a2 t346 t347 true) else ((name_Fold.f t346).bind fun t356 => (if t356.toList = t346.toList then ((name_Fold.f t348).bind fun t357 => (letterlocklaw1_NamePaths.j0 k a2 t346 t347 (t357.toList != t348.toList))) else (letterlocklaw1_NamePaths.j0 k a2 t346 t347 true)))) = some r := H
                  have A24 := Aside0.mk A240
                  clear A240
                  by_cases c25 : t355 = true
                  · subst c25
                    have H1 : (letterlocklaw1_NamePaths.j0 k a2 t346 t347 true) = some r := by rw [if_pos rfl] at H; exact H
                    clear H
                    have H := H1
                    clear H1
                    have H' := Aside0.mk H
                    clear H
                    go_wp2_with (first | ((with_reducible refine gate_callee (f := 21) rfl ?_); refine goesL_ (some 47) rfl rfl Tryd.func21 (by kernel_rfl) rfl #[.string t346] rfl (by (try simp only [List.map_toArray, List.map_cons, List.map_nil]); first | done | rfl | (simp only [List.length_drop, List.length_take]; rfl)) ?_; (with_reducible refine (name_Right.calls t346 true _ ?side1 A16.out).mono ?_); (case side1 => exact ⟨Tabs.below HTB.out (by repeat (first | (with_reducible first | exact HB.out | apply below_alloc | apply pw_below_drewN | apply below_drew1) | exact HB.out))⟩); rintro e w26 ⟨rfl, hb⟩; refine ⟨_, rfl, ?_⟩; have n0_ := Aside0.mk (below_step (by repeat (first | (with_reducible first | exact HB.out | apply below_alloc | apply pw_below_drewN | apply below_drew1) | exact HB.out)) hb); clear HB; have HB := n0_; clear n0_; (try clear hb); (try clear hb2); (try clear hk); (try clear hi)) | (go_at_call 21; (with_reducible refine (name_Right.calls t347 true _ ?side1 A18.out).mono ?_); (case side1 => exact ⟨Tabs.below HTB.out (by repeat (first | (with_reducible first | exact HB.out | apply below_alloc | apply pw_below_drewN | apply below_drew1) | exact HB.out))⟩); rintro e w27 ⟨rfl, hb⟩; have n0_ := Aside0.mk (below_step (by repeat (first | (with_reducible first | exact HB.out | apply below_alloc | apply pw_below_drewN | apply below_drew1) | exact HB.out)) hb); clear HB; have HB := n0_; clear n0_; (try clear hb); (try clear hb2); (try clear hk); (try clear hi)) | (go_at_call 21; (with_reducible refine (name_Right.calls t348 true _ ?side1 A24.out).mono ?_); (case side1 => exact ⟨Tabs.below HTB.out (by repeat (first | (with_reducible first | exact HB.out | apply below_alloc | apply pw_below_drewN | apply below_drew1) | exact HB.out))⟩); rintro e w28 ⟨rfl, hb⟩; have n0_ := Aside0.mk (below_step (by repeat (first | (with_reducible first | exact HB.out | apply below_alloc | apply pw_below_drewN | apply below_drew1) | exact HB.out)) hb); clear HB; have HB := n0_; clear n0_; (try clear hb); (try clear hb2); (try clear hk); (try clear hi)))
                    go_meet
                    case rel => exact ⟨_, (true), (by first | rfl | (simp; done) | (simp [*]; done)), H', ⟨by first | omega | exact Nat.le_refl _⟩, ⟨by repeat (first | (with_reducible first | exact HB.out | apply below_alloc | apply pw_below_drewN | apply below_drew1) | exact HB.out)⟩⟩
                  · replace c25 := Bool.eq_false_iff.mpr c25
                    subst c25
                    have H1 : ((name_Fold.f t346).bind fun t356 => (if t356.toList = t346.toList then ((name_Fold.f t348).bind fun t357 => (letterlocklaw1_NamePaths.j0 k a2 t346 t347 (t357.toList != t348.toList))) else (letterlocklaw1_NamePaths.j0 k a2 t346 t347 true))) = some r := by rw [if_neg (show ¬ (false = true) by decide)] at H; exact H
                    clear H
                    have H := H1
                    clear H1
                    replace H := Option.bind_eq_some_iff.mp H
                    obtain ⟨t356, A290, H⟩ := H
                    replace H : (if t356.toList = t346.toList then ((name_Fold.f t348).bind fun t357 => (letterlocklaw1_NamePaths.j0 k a2 t346 t347 (t357.toList != t348.toList))) else (letterlocklaw1_NamePaths.j0 k a2 t346 t347 true)) = some r := H
                    have A29 := Aside0.mk A290
                    clear A290
                    by_cases c30 : t356.toList = t346.toList
                    · rw [if_pos c30] at H
                      have c30b0 : (t356.toList == t346.toList) = true := beq_iff_eq.mpr c30
                      have c30b1 : (t356.toList != t346.toList) = false := bne_eq_false_iff_eq.mpr c30
                      clear c30
                      replace H := Option.bind_eq_some_iff.mp H
                      obtain ⟨t357, A310, H⟩ := H
                      replace H : (letterlocklaw1_NamePaths.j0 k a2 t346 t347 (t357.toList != t348.toList)) = some r := H
                      have A31 := Aside0.mk A310
                      clear A310
                      have H' := Aside0.mk H
                      clear H
                      go_wp2_with (first | ((with_reducible refine gate_callee (f := 21) rfl ?_); refine goesL_ (some 47) rfl rfl Tryd.func21 (by kernel_rfl) rfl #[.string t346] rfl (by (try simp only [List.map_toArray, List.map_cons, List.map_nil]); first | done | rfl | (simp only [List.length_drop, List.length_take]; rfl)) ?_; (with_reducible refine (name_Right.calls t346 true _ ?side1 A16.out).mono ?_); (case side1 => exact ⟨Tabs.below HTB.out (by repeat (first | (with_reducible first | exact HB.out | apply below_alloc | apply pw_below_drewN | apply below_drew1) | exact HB.out))⟩); rintro e w32 ⟨rfl, hb⟩; refine ⟨_, rfl, ?_⟩; have n0_ := Aside0.mk (below_step (by repeat (first | (with_reducible first | exact HB.out | apply below_alloc | apply pw_below_drewN | apply below_drew1) | exact HB.out)) hb); clear HB; have HB := n0_; clear n0_; (try clear hb); (try clear hb2); (try clear hk); (try clear hi)) | (go_at_call 21; (with_reducible refine (name_Right.calls t347 true _ ?side1 A18.out).mono ?_); (case side1 => exact ⟨Tabs.below HTB.out (by repeat (first | (with_reducible first | exact HB.out | apply below_alloc | apply pw_below_drewN | apply below_drew1) | exact HB.out))⟩); rintro e w33 ⟨rfl, hb⟩; have n0_ := Aside0.mk (below_step (by repeat (first | (with_reducible first | exact HB.out | apply below_alloc | apply pw_below_drewN | apply below_drew1) | exact HB.out)) hb); clear HB; have HB := n0_; clear n0_; (try clear hb); (try clear hb2); (try clear hk); (try clear hi)) | (go_at_call 21; (with_reducible refine (name_Right.calls t348 false _ ?side1 A24.out).mono ?_); (case side1 => exact ⟨Tabs.below HTB.out (by repeat (first | (with_reducible first | exact HB.out | apply below_alloc | apply pw_below_drewN | apply below_drew1) | exact HB.out))⟩); rintro e w34 ⟨rfl, hb⟩; have n0_ := Aside0.mk (below_step (by repeat (first | (with_reducible first | exact HB.out | apply below_alloc | apply pw_below_drewN | apply below_drew1) | exact HB.out)) hb); clear HB; have HB := n0_; clear n0_; (try clear hb); (try clear hb2); (try clear hk); (try clear hi)) | (go_at_call 27; (with_reducible refine (name_Fold.calls t346 t356 _ ?side1 A29.out).mono ?_); (case side1 => exact ⟨Tabs.below HTB.out (by repeat (first | (with_reducible first | exact HB.out | apply below_alloc | apply pw_below_drewN | apply below_drew1) | exact HB.out))⟩); rintro e w35 ⟨rfl, hb⟩; have n0_ := Aside0.mk (below_step (by repeat (first | (with_reducible first | exact HB.out | apply below_alloc | apply pw_below_drewN | apply below_drew1) | exact HB.out)) hb); clear HB; have HB := n0_; clear n0_; (try clear hb); (try clear hb2); (try clear hk); (try clear hi)) | (go_at_call 27; (with_reducible refine (name_Fold.calls t348 t357 _ ?side1 A31.out).mono ?_); (case side1 => exact ⟨Tabs.below HTB.out (by repeat (first | (with_reducible first | exact HB.out | apply below_alloc | apply pw_below_drewN | apply below_drew1) | exact HB.out))⟩); rintro e w36 ⟨rfl, hb⟩; have n0_ := Aside0.mk (below_step (by repeat (first | (with_reducible first | exact HB.out | apply below_alloc | apply pw_below_drewN | apply below_drew1) | exact HB.out)) hb); clear HB; have HB := n0_; clear n0_; (try clear hb); (try clear hb2); (try clear hk); (try clear hi)))
                      go_meet
                      case rel => exact ⟨_, ((t357.toList != t348.toList)), (by first | rfl | (simp; done) | (simp [*]; done)), H', ⟨by first | omega | exact Nat.le_refl _⟩, ⟨by repeat (first | (with_reducible first | exact HB.out | apply below_alloc | apply pw_below_drewN | apply below_drew1) | exact HB.out)⟩⟩
                    · rw [if_neg c30] at H
                      have c30b0 : (t356.toList == t346.toList) = false := beq_eq_false_iff_ne.mpr c30
                      have c30b1 : (t356.toList != t346.toList) = true := bne_iff_ne.mpr c30
                      have H' := Aside0.mk H
                      clear H
                      go_wp2_with (first | ((with_reducible refine gate_callee (f := 21) rfl ?_); refine goesL_ (some 47) rfl rfl Tryd.func21 (by kernel_rfl) rfl #[.string t346] rfl (by (try simp only [List.map_toArray, List.map_cons, List.map_nil]); first | done | rfl | (simp only [List.length_drop, List.length_take]; rfl)) ?_; (with_reducible refine (name_Right.calls t346 true _ ?side1 A16.out).mono ?_); (case side1 => exact ⟨Tabs.below HTB.out (by repeat (first | (with_reducible first | exact HB.out | apply below_alloc | apply pw_below_drewN | apply below_drew1) | exact HB.out))⟩); rintro e w37 ⟨rfl, hb⟩; refine ⟨_, rfl, ?_⟩; have n0_ := Aside0.mk (below_step (by repeat (first | (with_reducible first | exact HB.out | apply below_alloc | apply pw_below_drewN | apply below_drew1) | exact HB.out)) hb); clear HB; have HB := n0_; clear n0_; (try clear hb); (try clear hb2); (try clear hk); (try clear hi)) | (go_at_call 21; (with_reducible refine (name_Right.calls t347 true _ ?side1 A18.out).mono ?_); (case side1 => exact ⟨Tabs.below HTB.out (by repeat (first | (with_reducible first | exact HB.out | apply below_alloc | apply pw_below_drewN | apply below_drew1) | exact HB.out))⟩); rintro e w38 ⟨rfl, hb⟩; have n0_ := Aside0.mk (below_step (by repeat (first | (with_reducible first | exact HB.out | apply below_alloc | apply pw_below_drewN | apply below_drew1) | exact HB.out)) hb); clear HB; have HB := n0_; clear n0_; (try clear hb); (try clear hb2); (try clear hk); (try clear hi)) | (go_at_call 21; (with_reducible refine (name_Right.calls t348 false _ ?side1 A24.out).mono ?_); (case side1 => exact ⟨Tabs.below HTB.out (by repeat (first | (with_reducible first | exact HB.out | apply below_alloc | apply pw_below_drewN | apply below_drew1) | exact HB.out))⟩); rintro e w39 ⟨rfl, hb⟩; have n0_ := Aside0.mk (below_step (by repeat (first | (with_reducible first | exact HB.out | apply below_alloc | apply pw_below_drewN | apply below_drew1) | exact HB.out)) hb); clear HB; have HB := n0_; clear n0_; (try clear hb); (try clear hb2); (try clear hk); (try clear hi)) | (go_at_call 27; (with_reducible refine (name_Fold.calls t346 t356 _ ?side1 A29.out).mono ?_); (case side1 => exact ⟨Tabs.below HTB.out (by repeat (first | (with_reducible first | exact HB.out | apply below_alloc | apply pw_below_drewN | apply below_drew1) | exact HB.out))⟩); rintro e w40 ⟨rfl, hb⟩; have n0_ := Aside0.mk (below_step (by repeat (first | (with_reducible first | exact HB.out | apply below_alloc | apply pw_below_drewN | apply below_drew1) | exact HB.out)) hb); clear HB; have HB := n0_; clear n0_; (try clear hb); (try clear hb2); (try clear hk); (try clear hi)))
                      go_meet
                      case rel => exact ⟨_, (true), (by first | rfl | (simp; done) | (simp [*]; done)), H', ⟨by first | omega | exact Nat.le_refl _⟩, ⟨by repeat (first | (with_reducible first | exact HB.out | apply below_alloc | apply pw_below_drewN | apply below_drew1) | exact HB.out)⟩⟩
                · rw [if_neg c23] at H
                  have c23b0 : (t351.toList == t347.toList) = false := beq_eq_false_iff_ne.mpr c23
                  have c23b1 : (t351.toList != t347.toList) = true := bne_iff_ne.mpr c23
                  have H' := Aside0.mk H
                  clear H
                  go_wp2_with (first | ((with_reducible refine gate_callee (f := 21) rfl ?_); refine goesL_ (some 47) rfl rfl Tryd.func21 (by kernel_rfl) rfl #[.string t346] rfl (by (try simp only [List.map_toArray, List.map_cons, List.map_nil]); first | done | rfl | (simp only [List.length_drop, List.length_take]; rfl)) ?_; (with_reducible refine (name_Right.calls t346 true _ ?side1 A16.out).mono ?_); (case side1 => exact ⟨Tabs.below HTB.out (by repeat (first | (with_reducible first | exact HB.out | apply below_alloc | apply pw_below_drewN | apply below_drew1) | exact HB.out))⟩); rintro e w41 ⟨rfl, hb⟩; refine ⟨_, rfl, ?_⟩; have n0_ := Aside0.mk (below_step (by repeat (first | (with_reducible first | exact HB.out | apply below_alloc | apply pw_below_drewN | apply below_drew1) | exact HB.out)) hb); clear HB; have HB := n0_; clear n0_; (try clear hb); (try clear hb2); (try clear hk); (try clear hi)) | (go_at_call 21; (with_reducible refine (name_Right.calls t347 true _ ?side1 A18.out).mono ?_); (case side1 => exact ⟨Tabs.below HTB.out (by repeat (first | (with_reducible first | exact HB.out | apply below_alloc | apply pw_below_drewN | apply below_drew1) | exact HB.out))⟩); rintro e w42 ⟨rfl, hb⟩; have n0_ := Aside0.mk (below_step (by repeat (first | (with_reducible first | exact HB.out | apply below_alloc | apply pw_below_drewN | apply below_drew1) | exact HB.out)) hb); clear HB; have HB := n0_; clear n0_; (try clear hb); (try clear hb2); (try clear hk); (try clear hi)))
                  go_meet
                  case rel => exact ⟨_, (true), (by first | rfl | (simp; done) | (simp [*]; done)), H', ⟨by first | omega | exact Nat.le_refl _⟩, ⟨by repeat (first | (with_reducible first | exact HB.out | apply below_alloc | apply pw_below_drewN | apply below_drew1) | exact HB.out)⟩⟩
              · rw [if_neg c22] at H
                have c22b0 : (t350.toList == t346.toList) = false := beq_eq_false_iff_ne.mpr c22
                have c22b1 : (t350.toList != t346.toList) = true := bne_iff_ne.mpr c22
                have H' := Aside0.mk H
                clear H
                go_wp2_with (first | ((with_reducible refine gate_callee (f := 21) rfl ?_); refine goesL_ (some 47) rfl rfl Tryd.func21 (by kernel_rfl) rfl #[.string t346] rfl (by (try simp only [List.map_toArray, List.map_cons, List.map_nil]); first | done | rfl | (simp only [List.length_drop, List.length_take]; rfl)) ?_; (with_reducible refine (name_Right.calls t346 true _ ?side1 A16.out).mono ?_); (case side1 => exact ⟨Tabs.below HTB.out (by repeat (first | (with_reducible first | exact HB.out | apply below_alloc | apply pw_below_drewN | apply below_drew1) | exact HB.out))⟩); rintro e w43 ⟨rfl, hb⟩; refine ⟨_, rfl, ?_⟩; have n0_ := Aside0.mk (below_step (by repeat (first | (with_reducible first | exact HB.out | apply below_alloc | apply pw_below_drewN | apply below_drew1) | exact HB.out)) hb); clear HB; have HB := n0_; clear n0_; (try clear hb); (try clear hb2); (try clear hk); (try clear hi)) | (go_at_call 21; (with_reducible refine (name_Right.calls t347 true _ ?side1 A18.out).mono ?_); (case side1 => exact ⟨Tabs.below HTB.out (by repeat (first | (with_reducible first | exact HB.out | apply below_alloc | apply pw_below_drewN | apply below_drew1) | exact HB.out))⟩); rintro e w44 ⟨rfl, hb⟩; have n0_ := Aside0.mk (below_step (by repeat (first | (with_reducible first | exact HB.out | apply below_alloc | apply pw_below_drewN | apply below_drew1) | exact HB.out)) hb); clear HB; have HB := n0_; clear n0_; (try clear hb); (try clear hb2); (try clear hk); (try clear hi)))
                go_meet
                case rel => exact ⟨_, (true), (by first | rfl | (simp; done) | (simp [*]; done)), H', ⟨by first | omega | exact Nat.le_refl _⟩, ⟨by repeat (first | (with_reducible first | exact HB.out | apply below_alloc | apply pw_below_drewN | apply below_drew1) | exact HB.out)⟩⟩
            · rw [if_neg c21] at H
              have c21b0 : (t352 == 0) = false := beq_eq_false_iff_ne.mpr c21
              have c21b1 : (t352 != 0) = true := bne_iff_ne.mpr c21
              have H' := Aside0.mk H
              clear H
              go_wp2_with (first | ((with_reducible refine gate_callee (f := 21) rfl ?_); refine goesL_ (some 47) rfl rfl Tryd.func21 (by kernel_rfl) rfl #[.string t346] rfl (by (try simp only [List.map_toArray, List.map_cons, List.map_nil]); first | done | rfl | (simp only [List.length_drop, List.length_take]; rfl)) ?_; (with_reducible refine (name_Right.calls t346 true _ ?side1 A16.out).mono ?_); (case side1 => exact ⟨Tabs.below HTB.out (by repeat (first | (with_reducible first | exact HB.out | apply below_alloc | apply pw_below_drewN | apply below_drew1) | exact HB.out))⟩); rintro e w45 ⟨rfl, hb⟩; refine ⟨_, rfl, ?_⟩; have n0_ := Aside0.mk (below_step (by repeat (first | (with_reducible first | exact HB.out | apply below_alloc | apply pw_below_drewN | apply below_drew1) | exact HB.out)) hb); clear HB; have HB := n0_; clear n0_; (try clear hb); (try clear hb2); (try clear hk); (try clear hi)) | (go_at_call 21; (with_reducible refine (name_Right.calls t347 true _ ?side1 A18.out).mono ?_); (case side1 => exact ⟨Tabs.below HTB.out (by repeat (first | (with_reducible first | exact HB.out | apply below_alloc | apply pw_below_drewN | apply below_drew1) | exact HB.out))⟩); rintro e w46 ⟨rfl, hb⟩; have n0_ := Aside0.mk (below_step (by repeat (first | (with_reducible first | exact HB.out | apply below_alloc | apply pw_below_drewN | apply below_drew1) | exact HB.out)) hb); clear HB; have HB := n0_; clear n0_; (try clear hb); (try clear hb2); (try clear hk); (try clear hi)))
              go_meet
              case rel => exact ⟨_, (true), (by first | rfl | (simp; done) | (simp [*]; done)), H', ⟨by first | omega | exact Nat.le_refl _⟩, ⟨by repeat (first | (with_reducible first | exact HB.out | apply below_alloc | apply pw_below_drewN | apply below_drew1) | exact HB.out)⟩⟩
          · rw [if_neg c20] at H
            have c20b0 : (t349 == 0) = false := beq_eq_false_iff_ne.mpr c20
            have c20b1 : (t349 != 0) = true := bne_iff_ne.mpr c20
            (first | rw [c20b0] | (simp only [i64_w, i32_w]; rw [c20b0]) | skip)
            have H' := Aside0.mk H
            clear H
            go_wp2_with (first | ((with_reducible refine gate_callee (f := 21) rfl ?_); refine goesL_ (some 47) rfl rfl Tryd.func21 (by kernel_rfl) rfl #[.string t346] rfl (by (try simp only [List.map_toArray, List.map_cons, List.map_nil]); first | done | rfl | (simp only [List.length_drop, List.length_take]; rfl)) ?_; (with_reducible refine (name_Right.calls t346 true _ ?side1 A16.out).mono ?_); (case side1 => exact ⟨Tabs.below HTB.out (by repeat (first | (with_reducible first | exact HB.out | apply below_alloc | apply pw_below_drewN | apply below_drew1) | exact HB.out))⟩); rintro e w47 ⟨rfl, hb⟩; refine ⟨_, rfl, ?_⟩; have n0_ := Aside0.mk (below_step (by repeat (first | (with_reducible first | exact HB.out | apply below_alloc | apply pw_below_drewN | apply below_drew1) | exact HB.out)) hb); clear HB; have HB := n0_; clear n0_; (try clear hb); (try clear hb2); (try clear hk); (try clear hi)) | (go_at_call 21; (with_reducible refine (name_Right.calls t347 true _ ?side1 A18.out).mono ?_); (case side1 => exact ⟨Tabs.below HTB.out (by repeat (first | (with_reducible first | exact HB.out | apply below_alloc | apply pw_below_drewN | apply below_drew1) | exact HB.out))⟩); rintro e w48 ⟨rfl, hb⟩; have n0_ := Aside0.mk (below_step (by repeat (first | (with_reducible first | exact HB.out | apply below_alloc | apply pw_below_drewN | apply below_drew1) | exact HB.out)) hb); clear HB; have HB := n0_; clear n0_; (try clear hb); (try clear hb2); (try clear hk); (try clear hi)))
            go_meet
            case rel => exact ⟨_, (true), (by first | rfl | (simp; done) | (simp [*]; done)), H', ⟨by first | omega | exact Nat.le_refl _⟩, ⟨by repeat (first | (with_reducible first | exact HB.out | apply below_alloc | apply pw_below_drewN | apply below_drew1) | exact HB.out)⟩⟩
        · replace c19 := Bool.eq_false_iff.mpr c19
          subst c19
          have H1 : (letterlocklaw1_NamePaths.j0 k a2 t346 t347 true) = some r := by rw [if_neg (show ¬ (false = true) by decide)] at H; exact H
          clear H
          have H := H1
          clear H1
          have H' := Aside0.mk H
          clear H
          go_wp2_with (first | ((with_reducible refine gate_callee (f := 21) rfl ?_); refine goesL_ (some 47) rfl rfl Tryd.func21 (by kernel_rfl) rfl #[.string t346] rfl (by (try simp only [List.map_toArray, List.map_cons, List.map_nil]); first | done | rfl | (simp only [List.length_drop, List.length_take]; rfl)) ?_; (with_reducible refine (name_Right.calls t346 true _ ?side1 A16.out).mono ?_); (case side1 => exact ⟨Tabs.below HTB.out (by repeat (first | (with_reducible first | exact HB.out | apply below_alloc | apply pw_below_drewN | apply below_drew1) | exact HB.out))⟩); rintro e w49 ⟨rfl, hb⟩; refine ⟨_, rfl, ?_⟩; have n0_ := Aside0.mk (below_step (by repeat (first | (with_reducible first | exact HB.out | apply below_alloc | apply pw_below_drewN | apply below_drew1) | exact HB.out)) hb); clear HB; have HB := n0_; clear n0_; (try clear hb); (try clear hb2); (try clear hk); (try clear hi)) | (go_at_call 21; (with_reducible refine (name_Right.calls t347 false _ ?side1 A18.out).mono ?_); (case side1 => exact ⟨Tabs.below HTB.out (by repeat (first | (with_reducible first | exact HB.out | apply below_alloc | apply pw_below_drewN | apply below_drew1) | exact HB.out))⟩); rintro e w50 ⟨rfl, hb⟩; have n0_ := Aside0.mk (below_step (by repeat (first | (with_reducible first | exact HB.out | apply below_alloc | apply pw_below_drewN | apply below_drew1) | exact HB.out)) hb); clear HB; have HB := n0_; clear n0_; (try clear hb); (try clear hb2); (try clear hk); (try clear hi)))
          go_meet
          case rel => exact ⟨_, (true), (by first | rfl | (simp; done) | (simp [*]; done)), H', ⟨by first | omega | exact Nat.le_refl _⟩, ⟨by repeat (first | (with_reducible first | exact HB.out | apply below_alloc | apply pw_below_drewN | apply below_drew1) | exact HB.out)⟩⟩
      · replace c17 := Bool.eq_false_iff.mpr c17
        subst c17
        have H1 : (letterlocklaw1_NamePaths.j0 k a2 t346 t347 true) = some r := by rw [if_neg (show ¬ (false = true) by decide)] at H; exact H
        clear H
        have H := H1
        clear H1
        have H' := Aside0.mk H
        clear H
        go_wp2_with (first | ((with_reducible refine gate_callee (f := 21) rfl ?_); refine goesL_ (some 47) rfl rfl Tryd.func21 (by kernel_rfl) rfl #[.string t346] rfl (by (try simp only [List.map_toArray, List.map_cons, List.map_nil]); first | done | rfl | (simp only [List.length_drop, List.length_take]; rfl)) ?_; (with_reducible refine (name_Right.calls t346 false _ ?side1 A16.out).mono ?_); (case side1 => exact ⟨Tabs.below HTB.out (by repeat (first | (with_reducible first | exact HB.out | apply below_alloc | apply pw_below_drewN | apply below_drew1) | exact HB.out))⟩); rintro e w51 ⟨rfl, hb⟩; refine ⟨_, rfl, ?_⟩; have n0_ := Aside0.mk (below_step (by repeat (first | (with_reducible first | exact HB.out | apply below_alloc | apply pw_below_drewN | apply below_drew1) | exact HB.out)) hb); clear HB; have HB := n0_; clear n0_; (try clear hb); (try clear hb2); (try clear hk); (try clear hi)))
        go_meet
        case rel => exact ⟨_, (true), (by first | rfl | (simp; done) | (simp [*]; done)), H', ⟨by first | omega | exact Nat.le_refl _⟩, ⟨by repeat (first | (with_reducible first | exact HB.out | apply below_alloc | apply pw_below_drewN | apply below_drew1) | exact HB.out)⟩⟩
    case rest =>
      clear HC10
      try clear c1
      try clear c2
      try clear p2
      try clear c3
      try clear c5
      try clear c11
      try clear c12
      try clear c14
      try clear c15
      try clear c16
      try clear c17
      try clear c19
      try clear c20
      try clear c20b0
      try clear c20b1
      try clear c21
      try clear c21b0
      try clear c21b1
      try clear c22
      try clear c22b0
      try clear c22b1
      try clear c23
      try clear c23b0
      try clear c23b1
      try clear c25
      try clear c30
      try clear c30b0
      try clear c30b1
      obtain ⟨kq, x87_9, rfl, HA, HJ9, HB⟩ := hcut
      cases kq with
      | zero => exact absurd HA.out (by simp [letterlocklaw1_NamePaths.j0])
      | succ kj9 =>
        have H := HA.out
        clear HA
        simp only [letterlocklaw1_NamePaths.j0] at H
        by_cases c52 : x87_9 = true
        · subst c52
          have H1 : (some false) = some r := by rw [if_pos rfl] at H; exact H
          clear H
          have H := H1
          clear H1
          obtain rfl := Option.some.inj H
          go_wp2
          go_ret
          exact ⟨by first | rfl | (simp [errW_none, errW_some] <;> rfl) | (simp [*, errW_none, errW_some] <;> rfl), by repeat (first | (with_reducible first | exact HB.out | apply below_alloc | apply pw_below_drewN | apply below_drew1) | exact HB.out)⟩
        · replace c52 := Bool.eq_false_iff.mpr c52
          subst c52
          have H1 : ((name_Runes.f t346).bind fun bt358 => ((letterlocklaw1_pick.f a2 (wrap64 ((bt358.1.length : Int) + 1))).bind fun t362 => (if 0 ≤ t362 then (if t362 ≤ (bt358.1.length : Int) then ((name_Make.f (bt358.1.take (t362 : Int).toNat)).bind fun bt367 => ((name_Make.f (bt358.1.drop (t362 : Int).toNat)).bind fun bt373 => ((some (([(⟨#[65]⟩ : ByteArray), (⟨#[32]⟩ : ByteArray), (⟨#[47]⟩ : ByteArray), (⟨#[95]⟩ : ByteArray), (⟨#[128]⟩ : ByteArray), (⟨#[195]⟩ : ByteArray), (⟨#[195, 151]⟩ : ByteArray), (⟨#[207, 130, 204, 129]⟩ : ByteArray)] : List ByteArray) : List ByteArray)).bind fun y375 => ((letterlocklaw1_pick.f a2 (y375.length : Int)).bind fun t378 => (if 0 ≤ t378 then (if t378 < (y375.length : Int) then (if bt367.1.size + (rdOf ByteArray.empty y375 t378).size ≤ 9223372036854775807 then (if (bt367.1 ++ (rdOf ByteArray.empty y375 t378)).size + bt373.1.size ≤ 9223372036854775807 then (if ((bt367.1 ++ (rdOf ByteArray.empty y375 t378)) ++ bt373.1).size + 1 ≤ 9223372036854775807 then (if (((bt367.1 ++ (rdOf ByteArray.empty y375 t378)) ++ bt373.1) ++ (⟨#[47]⟩ : ByteArray)).size + t347.size ≤ 9223372036854775807 then ((name_Split.f ((((bt367.1 ++ (rdOf ByteArray.empty y375 t378)) ++ bt373.1) ++ (⟨#[47]⟩ : ByteArray)) ++ t347)).bind fun bt380 => ((name_Right.f ((bt367.1 ++ (rdOf ByteArray.empty y375 t378)) ++ bt373.1)).bind fun t383 => (if t383 = true then (some false) else (if bt380.2.2 = 3 then ((name_Right.f (⟨#[]⟩ : ByteArray)).bind fun t384 => (if t384 = true then (some false) else (if (bt358.1.length : Int) < 32 then (some true) else (if t346.size + 1 ≤ 9223372036854775807 then ((name_Right.f (t346 ++ (⟨#[97]⟩ : ByteArray))).bind fun t385 => (some (!t385))) else (none))))) else (some false))))) else (none)) else (none)) else (none)) else (none)) else (none)) else (none)))))) else (none)) else (none)))) = some r := by rw [if_neg (show ¬ (false = true) by decide)] at H; exact H
          clear H
          have H := H1
          clear H1
          replace H := Option.bind_eq_some_iff.mp H
          obtain ⟨⟨t358, t359⟩, A530, H⟩ := H
          replace H : ((letterlocklaw1_pick.f a2 (wrap64 ((t358.length : Int) + 1))).bind fun t362 => (if 0 ≤ t362 then (if t362 ≤ (t358.length : Int) then ((name_Make.f (t358.take (t362 : Int).toNat)).bind fun bt367 => ((name_Make.f (t358.drop (t362 : Int).toNat)).bind fun bt373 => ((some (([(⟨#[65]⟩ : ByteArray), (⟨#[32]⟩ : ByteArray), (⟨#[47]⟩ : ByteArray), (⟨#[95]⟩ : ByteArray), (⟨#[128]⟩ : ByteArray), (⟨#[195]⟩ : ByteArray), (⟨#[195, 151]⟩ : ByteArray), (⟨#[207, 130, 204, 129]⟩ : ByteArray)] : List ByteArray) : List ByteArray)).bind fun y375 => ((letterlocklaw1_pick.f a2 (y375.length : Int)).bind fun t378 => (if 0 ≤ t378 then (if t378 < (y375.length : Int) then (if bt367.1.size + (rdOf ByteArray.empty y375 t378).size ≤ 9223372036854775807 then (if (bt367.1 ++ (rdOf ByteArray.empty y375 t378)).size + bt373.1.size ≤ 9223372036854775807 then (if ((bt367.1 ++ (rdOf ByteArray.empty y375 t378)) ++ bt373.1).size + 1 ≤ 9223372036854775807 then (if (((bt367.1 ++ (rdOf ByteArray.empty y375 t378)) ++ bt373.1) ++ (⟨#[47]⟩ : ByteArray)).size + t347.size ≤ 9223372036854775807 then ((name_Split.f ((((bt367.1 ++ (rdOf ByteArray.empty y375 t378)) ++ bt373.1) ++ (⟨#[47]⟩ : ByteArray)) ++ t347)).bind fun bt380 => ((name_Right.f ((bt367.1 ++ (rdOf ByteArray.empty y375 t378)) ++ bt373.1)).bind fun t383 => (if t383 = true then (some false) else (if bt380.2.2 = 3 then ((name_Right.f (⟨#[]⟩ : ByteArray)).bind fun t384 => (if t384 = true then (some false) else (if (t358.length : Int) < 32 then (some true) else (if t346.size + 1 ≤ 9223372036854775807 then ((name_Right.f (t346 ++ (⟨#[97]⟩ : ByteArray))).bind fun t385 => (some (!t385))) else (none))))) else (some false))))) else (none)) else (none)) else (none)) else (none)) else (none)) else (none)))))) else (none)) else (none))) = some r := H
          have A53 := Aside0.mk A530
          clear A530
          replace H := Option.bind_eq_some_iff.mp H
          obtain ⟨t362, A540, H⟩ := H
          replace H : (if 0 ≤ t362 then (if t362 ≤ (t358.length : Int) then ((name_Make.f (t358.take (t362 : Int).toNat)).bind fun bt367 => ((name_Make.f (t358.drop (t362 : Int).toNat)).bind fun bt373 => ((some (([(⟨#[65]⟩ : ByteArray), (⟨#[32]⟩ : ByteArray), (⟨#[47]⟩ : ByteArray), (⟨#[95]⟩ : ByteArray), (⟨#[128]⟩ : ByteArray), (⟨#[195]⟩ : ByteArray), (⟨#[195, 151]⟩ : ByteArray), (⟨#[207, 130, 204, 129]⟩ : ByteArray)] : List ByteArray) : List ByteArray)).bind fun y375 => ((letterlocklaw1_pick.f a2 (y375.length : Int)).bind fun t378 => (if 0 ≤ t378 then (if t378 < (y375.length : Int) then (if bt367.1.size + (rdOf ByteArray.empty y375 t378).size ≤ 9223372036854775807 then (if (bt367.1 ++ (rdOf ByteArray.empty y375 t378)).size + bt373.1.size ≤ 9223372036854775807 then (if ((bt367.1 ++ (rdOf ByteArray.empty y375 t378)) ++ bt373.1).size + 1 ≤ 9223372036854775807 then (if (((bt367.1 ++ (rdOf ByteArray.empty y375 t378)) ++ bt373.1) ++ (⟨#[47]⟩ : ByteArray)).size + t347.size ≤ 9223372036854775807 then ((name_Split.f ((((bt367.1 ++ (rdOf ByteArray.empty y375 t378)) ++ bt373.1) ++ (⟨#[47]⟩ : ByteArray)) ++ t347)).bind fun bt380 => ((name_Right.f ((bt367.1 ++ (rdOf ByteArray.empty y375 t378)) ++ bt373.1)).bind fun t383 => (if t383 = true then (some false) else (if bt380.2.2 = 3 then ((name_Right.f (⟨#[]⟩ : ByteArray)).bind fun t384 => (if t384 = true then (some false) else (if (t358.length : Int) < 32 then (some true) else (if t346.size + 1 ≤ 9223372036854775807 then ((name_Right.f (t346 ++ (⟨#[97]⟩ : ByteArray))).bind fun t385 => (some (!t385))) else (none))))) else (some false))))) else (none)) else (none)) else (none)) else (none)) else (none)) else (none)))))) else (none)) else (none)) = some r := H
          have A54 := Aside0.mk A540
          clear A540
          by_cases c55 : 0 ≤ t362
          · rw [if_pos c55] at H
            have c55b0 := eq_true c55
            have c55b1 : decide (0 ≤ t362) = true := decide_eq_true c55
            clear c55
            by_cases c56 : t362 ≤ (t358.length : Int)
            · rw [if_pos c56] at H
              have c56b0 := eq_true c56
              have c56b1 : decide (t362 ≤ (t358.length : Int)) = true := decide_eq_true c56
              clear c56
              obtain ⟨y363, hy363⟩ : ∃ y_ : List Int, y_ = (t358.take (t362 : Int).toNat) := ⟨_, rfl⟩
              replace H : ((name_Make.f y363).bind fun bt367 => ((name_Make.f (t358.drop (t362 : Int).toNat)).bind fun bt373 => ((some (([(⟨#[65]⟩ : ByteArray), (⟨#[32]⟩ : ByteArray), (⟨#[47]⟩ : ByteArray), (⟨#[95]⟩ : ByteArray), (⟨#[128]⟩ : ByteArray), (⟨#[195]⟩ : ByteArray), (⟨#[195, 151]⟩ : ByteArray), (⟨#[207, 130, 204, 129]⟩ : ByteArray)] : List ByteArray) : List ByteArray)).bind fun y375 => ((letterlocklaw1_pick.f a2 (y375.length : Int)).bind fun t378 => (if 0 ≤ t378 then (if t378 < (y375.length : Int) then (if bt367.1.size + (rdOf ByteArray.empty y375 t378).size ≤ 9223372036854775807 then (if (bt367.1 ++ (rdOf ByteArray.empty y375 t378)).size + bt373.1.size ≤ 9223372036854775807 then (if ((bt367.1 ++ (rdOf ByteArray.empty y375 t378)) ++ bt373.1).size + 1 ≤ 9223372036854775807 then (if (((bt367.1 ++ (rdOf ByteArray.empty y375 t378)) ++ bt373.1) ++ (⟨#[47]⟩ : ByteArray)).size + t347.size ≤ 9223372036854775807 then ((name_Split.f ((((bt367.1 ++ (rdOf ByteArray.empty y375 t378)) ++ bt373.1) ++ (⟨#[47]⟩ : ByteArray)) ++ t347)).bind fun bt380 => ((name_Right.f ((bt367.1 ++ (rdOf ByteArray.empty y375 t378)) ++ bt373.1)).bind fun t383 => (if t383 = true then (some false) else (if bt380.2.2 = 3 then ((name_Right.f (⟨#[]⟩ : ByteArray)).bind fun t384 => (if t384 = true then (some false) else (if (t358.length : Int) < 32 then (some true) else (if t346.size + 1 ≤ 9223372036854775807 then ((name_Right.f (t346 ++ (⟨#[97]⟩ : ByteArray))).bind fun t385 => (some (!t385))) else (none))))) else (some false))))) else (none)) else (none)) else (none)) else (none)) else (none)) else (none)))))) = some r := by first | (rw [hy363]; with_reducible exact H) | (have H2_ := (Option.bind_some _ _).symm.trans H; rw [hy363]; with_reducible exact H2_) | (have H2_ := (Option.bind_some _ _).symm.trans H; with_reducible exact H2_) | with_reducible exact H | (rw [hy363]; exact H) | exact H
              have Ny363 := Aside0.mk hy363
              clear hy363
              replace H := Option.bind_eq_some_iff.mp H
              obtain ⟨⟨t367, t368⟩, A570, H⟩ := H
              replace H : ((name_Make.f (t358.drop (t362 : Int).toNat)).bind fun bt373 => ((some (([(⟨#[65]⟩ : ByteArray), (⟨#[32]⟩ : ByteArray), (⟨#[47]⟩ : ByteArray), (⟨#[95]⟩ : ByteArray), (⟨#[128]⟩ : ByteArray), (⟨#[195]⟩ : ByteArray), (⟨#[195, 151]⟩ : ByteArray), (⟨#[207, 130, 204, 129]⟩ : ByteArray)] : List ByteArray) : List ByteArray)).bind fun y375 => ((letterlocklaw1_pick.f a2 (y375.length : Int)).bind fun t378 => (if 0 ≤ t378 then (if t378 < (y375.length : Int) then (if t367.size + (rdOf ByteArray.empty y375 t378).size ≤ 9223372036854775807 then (if (t367 ++ (rdOf ByteArray.empty y375 t378)).size + bt373.1.size ≤ 9223372036854775807 then (if ((t367 ++ (rdOf ByteArray.empty y375 t378)) ++ bt373.1).size + 1 ≤ 9223372036854775807 then (if (((t367 ++ (rdOf ByteArray.empty y375 t378)) ++ bt373.1) ++ (⟨#[47]⟩ : ByteArray)).size + t347.size ≤ 9223372036854775807 then ((name_Split.f ((((t367 ++ (rdOf ByteArray.empty y375 t378)) ++ bt373.1) ++ (⟨#[47]⟩ : ByteArray)) ++ t347)).bind fun bt380 => ((name_Right.f ((t367 ++ (rdOf ByteArray.empty y375 t378)) ++ bt373.1)).bind fun t383 => (if t383 = true then (some false) else (if bt380.2.2 = 3 then ((name_Right.f (⟨#[]⟩ : ByteArray)).bind fun t384 => (if t384 = true then (some false) else (if (t358.length : Int) < 32 then (some true) else (if t346.size + 1 ≤ 9223372036854775807 then ((name_Right.f (t346 ++ (⟨#[97]⟩ : ByteArray))).bind fun t385 => (some (!t385))) else (none))))) else (some false))))) else (none)) else (none)) else (none)) else (none)) else (none)) else (none))))) = some r := H
              have A57 := Aside0.mk A570
              clear A570
              have c58b0 := eq_true (of_decide_eq_true (by first | (with_reducible assumption) | assumption) : 0 ≤ t362)
              have c59b0 := eq_true (of_decide_eq_true (by first | (with_reducible assumption) | assumption) : t362 ≤ (t358.length : Int))
              obtain ⟨y369, hy369⟩ : ∃ y_ : List Int, y_ = (t358.drop (t362 : Int).toNat) := ⟨_, rfl⟩
              replace H : ((name_Make.f y369).bind fun bt373 => ((some (([(⟨#[65]⟩ : ByteArray), (⟨#[32]⟩ : ByteArray), (⟨#[47]⟩ : ByteArray), (⟨#[95]⟩ : ByteArray), (⟨#[128]⟩ : ByteArray), (⟨#[195]⟩ : ByteArray), (⟨#[195, 151]⟩ : ByteArray), (⟨#[207, 130, 204, 129]⟩ : ByteArray)] : List ByteArray) : List ByteArray)).bind fun y375 => ((letterlocklaw1_pick.f a2 (y375.length : Int)).bind fun t378 => (if 0 ≤ t378 then (if t378 < (y375.length : Int) then (if t367.size + (rdOf ByteArray.empty y375 t378).size ≤ 9223372036854775807 then (if (t367 ++ (rdOf ByteArray.empty y375 t378)).size + bt373.1.size ≤ 9223372036854775807 then (if ((t367 ++ (rdOf ByteArray.empty y375 t378)) ++ bt373.1).size + 1 ≤ 9223372036854775807 then (if (((t367 ++ (rdOf ByteArray.empty y375 t378)) ++ bt373.1) ++ (⟨#[47]⟩ : ByteArray)).size + t347.size ≤ 9223372036854775807 then ((name_Split.f ((((t367 ++ (rdOf ByteArray.empty y375 t378)) ++ bt373.1) ++ (⟨#[47]⟩ : ByteArray)) ++ t347)).bind fun bt380 => ((name_Right.f ((t367 ++ (rdOf ByteArray.empty y375 t378)) ++ bt373.1)).bind fun t383 => (if t383 = true then (some false) else (if bt380.2.2 = 3 then ((name_Right.f (⟨#[]⟩ : ByteArray)).bind fun t384 => (if t384 = true then (some false) else (if (t358.length : Int) < 32 then (some true) else (if t346.size + 1 ≤ 9223372036854775807 then ((name_Right.f (t346 ++ (⟨#[97]⟩ : ByteArray))).bind fun t385 => (some (!t385))) else (none))))) else (some false))))) else (none)) else (none)) else (none)) else (none)) else (none)) else (none))))) = some r := by first | (rw [hy369]; with_reducible exact H) | (have H2_ := (Option.bind_some _ _).symm.trans H; rw [hy369]; with_reducible exact H2_) | (have H2_ := (Option.bind_some _ _).symm.trans H; with_reducible exact H2_) | with_reducible exact H | (rw [hy369]; exact H) | exact H
              have Ny369 := Aside0.mk hy369
              clear hy369
              replace H := Option.bind_eq_some_iff.mp H
              obtain ⟨⟨t373, t374⟩, A600, H⟩ := H
              replace H : ((some (([(⟨#[65]⟩ : ByteArray), (⟨#[32]⟩ : ByteArray), (⟨#[47]⟩ : ByteArray), (⟨#[95]⟩ : ByteArray), (⟨#[128]⟩ : ByteArray), (⟨#[195]⟩ : ByteArray), (⟨#[195, 151]⟩ : ByteArray), (⟨#[207, 130, 204, 129]⟩ : ByteArray)] : List ByteArray) : List ByteArray)).bind fun y375 => ((letterlocklaw1_pick.f a2 (y375.length : Int)).bind fun t378 => (if 0 ≤ t378 then (if t378 < (y375.length : Int) then (if t367.size + (rdOf ByteArray.empty y375 t378).size ≤ 9223372036854775807 then (if (t367 ++ (rdOf ByteArray.empty y375 t378)).size + t373.size ≤ 9223372036854775807 then (if ((t367 ++ (rdOf ByteArray.empty y375 t378)) ++ t373).size + 1 ≤ 9223372036854775807 then (if (((t367 ++ (rdOf ByteArray.empty y375 t378)) ++ t373) ++ (⟨#[47]⟩ : ByteArray)).size + t347.size ≤ 9223372036854775807 then ((name_Split.f ((((t367 ++ (rdOf ByteArray.empty y375 t378)) ++ t373) ++ (⟨#[47]⟩ : ByteArray)) ++ t347)).bind fun bt380 => ((name_Right.f ((t367 ++ (rdOf ByteArray.empty y375 t378)) ++ t373)).bind fun t383 => (if t383 = true then (some false) else (if bt380.2.2 = 3 then ((name_Right.f (⟨#[]⟩ : ByteArray)).bind fun t384 => (if t384 = true then (some false) else (if (t358.length : Int) < 32 then (some true) else (if t346.size + 1 ≤ 9223372036854775807 then ((name_Right.f (t346 ++ (⟨#[97]⟩ : ByteArray))).bind fun t385 => (some (!t385))) else (none))))) else (some false))))) else (none)) else (none)) else (none)) else (none)) else (none)) else (none)))) = some r := H
              have A60 := Aside0.mk A600
              clear A600
              obtain ⟨y375, hy375⟩ : ∃ y_ : List ByteArray, y_ = (([(⟨#[65]⟩ : ByteArray), (⟨#[32]⟩ : ByteArray), (⟨#[47]⟩ : ByteArray), (⟨#[95]⟩ : ByteArray), (⟨#[128]⟩ : ByteArray), (⟨#[195]⟩ : ByteArray), (⟨#[195, 151]⟩ : ByteArray), (⟨#[207, 130, 204, 129]⟩ : ByteArray)] : List ByteArray)) := ⟨_, rfl⟩
              replace H : ((letterlocklaw1_pick.f a2 (y375.length : Int)).bind fun t378 => (if 0 ≤ t378 then (if t378 < (y375.length : Int) then (if t367.size + (rdOf ByteArray.empty y375 t378).size ≤ 9223372036854775807 then (if (t367 ++ (rdOf ByteArray.empty y375 t378)).size + t373.size ≤ 9223372036854775807 then (if ((t367 ++ (rdOf ByteArray.empty y375 t378)) ++ t373).size + 1 ≤ 9223372036854775807 then (if (((t367 ++ (rdOf ByteArray.empty y375 t378)) ++ t373) ++ (⟨#[47]⟩ : ByteArray)).size + t347.size ≤ 9223372036854775807 then ((name_Split.f ((((t367 ++ (rdOf ByteArray.empty y375 t378)) ++ t373) ++ (⟨#[47]⟩ : ByteArray)) ++ t347)).bind fun bt380 => ((name_Right.f ((t367 ++ (rdOf ByteArray.empty y375 t378)) ++ t373)).bind fun t383 => (if t383 = true then (some false) else (if bt380.2.2 = 3 then ((name_Right.f (⟨#[]⟩ : ByteArray)).bind fun t384 => (if t384 = true then (some false) else (if (t358.length : Int) < 32 then (some true) else (if t346.size + 1 ≤ 9223372036854775807 then ((name_Right.f (t346 ++ (⟨#[97]⟩ : ByteArray))).bind fun t385 => (some (!t385))) else (none))))) else (some false))))) else (none)) else (none)) else (none)) else (none)) else (none)) else (none))) = some r := by first | (rw [hy375]; with_reducible exact H) | (have H2_ := (Option.bind_some _ _).symm.trans H; rw [hy375]; with_reducible exact H2_) | (have H2_ := (Option.bind_some _ _).symm.trans H; with_reducible exact H2_) | with_reducible exact H | (rw [hy375]; exact H) | exact H
              have Ny375 := Aside0.mk hy375
              clear hy375
              replace H := Option.bind_eq_some_iff.mp H
              obtain ⟨t378, A610, H⟩ := H
              replace H : (if 0 ≤ t378 then (if t378 < (y375.length : Int) then (if t367.size + (rdOf ByteArray.empty y375 t378).size ≤ 9223372036854775807 then (if (t367 ++ (rdOf ByteArray.empty y375 t378)).size + t373.size ≤ 9223372036854775807 then (if ((t367 ++ (rdOf ByteArray.empty y375 t378)) ++ t373).size + 1 ≤ 9223372036854775807 then (if (((t367 ++ (rdOf ByteArray.empty y375 t378)) ++ t373) ++ (⟨#[47]⟩ : ByteArray)).size + t347.size ≤ 9223372036854775807 then ((name_Split.f ((((t367 ++ (rdOf ByteArray.empty y375 t378)) ++ t373) ++ (⟨#[47]⟩ : ByteArray)) ++ t347)).bind fun bt380 => ((name_Right.f ((t367 ++ (rdOf ByteArray.empty y375 t378)) ++ t373)).bind fun t383 => (if t383 = true then (some false) else (if bt380.2.2 = 3 then ((name_Right.f (⟨#[]⟩ : ByteArray)).bind fun t384 => (if t384 = true then (some false) else (if (t358.length : Int) < 32 then (some true) else (if t346.size + 1 ≤ 9223372036854775807 then ((name_Right.f (t346 ++ (⟨#[97]⟩ : ByteArray))).bind fun t385 => (some (!t385))) else (none))))) else (some false))))) else (none)) else (none)) else (none)) else (none)) else (none)) else (none)) = some r := H
              have A61 := Aside0.mk A610
              clear A610
              by_cases c62 : 0 ≤ t378
              · rw [if_pos c62] at H
                have c62b0 : decide (0 ≤ t378) = true := decide_eq_true c62
                clear c62
                by_cases c63 : t378 < (y375.length : Int)
                · rw [if_pos c63] at H
                  have c63b0 : decide (t378 < (y375.length : Int)) = true := decide_eq_true c63
                  clear c63
                  by_cases c64 : t367.size + (rdOf ByteArray.empty y375 t378).size ≤ 9223372036854775807
                  · rw [if_pos c64] at H
                    have c64b0 := eq_true c64
                    have c64b1 : decide (t367.size + (rdOf ByteArray.empty y375 t378).size ≤ 9223372036854775807) = true := decide_eq_true c64
                    try have c64b2 : (9223372036854775807 < t367.size + (rdOf ByteArray.empty y375 t378).size) = False := eq_false (Nat.not_lt.2 c64)
                    by_cases c65 : (t367 ++ (rdOf ByteArray.empty y375 t378)).size + t373.size ≤ 9223372036854775807
                    · rw [if_pos c65] at H
                      have c65b0 := eq_true c65
                      have c65b1 : decide ((t367 ++ (rdOf ByteArray.empty y375 t378)).size + t373.size ≤ 9223372036854775807) = true := decide_eq_true c65
                      try have c65b2 : (9223372036854775807 < (t367 ++ (rdOf ByteArray.empty y375 t378)).size + t373.size) = False := eq_false (Nat.not_lt.2 c65)
                      by_cases c66 : ((t367 ++ (rdOf ByteArray.empty y375 t378)) ++ t373).size + 1 ≤ 9223372036854775807
                      · rw [if_pos c66] at H
                        have c66b0 := eq_true c66
                        have c66b1 : decide (((t367 ++ (rdOf ByteArray.empty y375 t378)) ++ t373).size + 1 ≤ 9223372036854775807) = true := decide_eq_true c66
                        try have c66b2 : (9223372036854775807 < ((t367 ++ (rdOf ByteArray.empty y375 t378)) ++ t373).size + 1) = False := eq_false (Nat.not_lt.2 c66)
                        have c66b3 : (9223372036854775807 < t367.size + (rdOf ByteArray.empty y375 t378).size + t373.size + 1) = False := eq_false (Nat.not_lt.2 (by have z := c66; simp only [ByteArray.size_append] at z; exact z))
                        by_cases c67 : (((t367 ++ (rdOf ByteArray.empty y375 t378)) ++ t373) ++ (⟨#[47]⟩ : ByteArray)).size + t347.size ≤ 9223372036854775807
                        · rw [if_pos c67] at H
                          have c67b0 := eq_true c67
                          have c67b1 : decide ((((t367 ++ (rdOf ByteArray.empty y375 t378)) ++ t373) ++ (⟨#[47]⟩ : ByteArray)).size + t347.size ≤ 9223372036854775807) = true := decide_eq_true c67
                          try have c67b2 : (9223372036854775807 < (((t367 ++ (rdOf ByteArray.empty y375 t378)) ++ t373) ++ (⟨#[47]⟩ : ByteArray)).size + t347.size) = False := eq_false (Nat.not_lt.2 c67)
                          replace H := Option.bind_eq_some_iff.mp H
                          obtain ⟨⟨t380, t381, t382⟩, A680, H⟩ := H
                          replace H : ((name_Right.f ((t367 ++ (rdOf ByteArray.empty y375 t378)) ++ t373)).bind fun t383 => (if t383 = true then (some false) else (if t382 = 3 then ((name_Right.f (⟨#[]⟩ : ByteArray)).bind fun t384 => (if t384 = true then (some false) else (if (t358.length : Int) < 32 then (some true) else (if t346.size + 1 ≤ 9223372036854775807 then ((name_Right.f (t346 ++ (⟨#[97]⟩ : ByteArray))).bind fun t385 => (some (!t385))) else (none))))) else (some false)))) = some r := H
                          have A68 := Aside0.mk A680
                          clear A680
                          replace H := Option.bind_eq_some_iff.mp H
                          obtain ⟨t383, A690, H⟩ := H
                          replace H : (if t383 = true then (some false) else (if t382 = 3 then ((name_Right.f (⟨#[]⟩ : ByteArray)).bind fun t384 => (if t384 = true then (some false) else (if (t358.length : Int) < 32 then (some true) else (if t346.size + 1 ≤ 9223372036854775807 then ((name_Right.f (t346 ++ (⟨#[97]⟩ : ByteArray))).bind fun t385 => (some (!t385))) else (none))))) else (some false))) = some r := H
                          have A69 := Aside0.mk A690
                          clear A690
                          go_wp2_with (first | ((with_reducible refine gate_callee (f := 17) rfl ?_); refine goesL_ (some 90) rfl rfl Tryd.func17 (by kernel_rfl) rfl #[.string t346] rfl (by (try simp only [List.map_toArray, List.map_cons, List.map_nil]); first | done | rfl | (simp only [List.length_drop, List.length_take]; rfl)) ?_; (with_reducible refine (name_Runes.calls t346 t358 t359 _ ?side1 A53.out).mono ?_); (case side1 => exact ⟨Tabs.below HTB.out (by repeat (first | (with_reducible first | exact HB.out | apply below_alloc | apply pw_below_drewN | apply below_drew1) | exact HB.out))⟩); rintro e w71 ⟨v360, rfl, ho0, hb⟩; refine ⟨_, rfl, ?_⟩; have n0_ := Aside0.mk (Kd.R_lower ho0 (below_size (by repeat (first | (with_reducible first | exact HB.out | apply below_alloc | apply pw_below_drewN | apply below_drew1) | exact HB.out)))); have n1_ := Aside0.mk (below_step (by repeat (first | (with_reducible first | exact HB.out | apply below_alloc | apply pw_below_drewN | apply below_drew1) | exact HB.out)) hb); clear HB; have HO361 := n0_; have HB := n1_; clear n0_ n1_; (try clear hb); (try clear hb2); (try clear hk); (try clear hi); (try clear ho0); obtain ⟨Ao72, co72, eo72⟩ := Kd.R_slice HO361.out; subst eo72) | ((with_reducible refine gate_callee (f := 20) rfl ?_); refine goesL_ (some 97) rfl rfl Tryd.func20 (by kernel_rfl) rfl #[.int .i64 a2, .int .i64 (wrap64 ((t358.length : Int) + 1))] rfl (by (try simp only [List.map_toArray, List.map_cons, List.map_nil]); first | done | rfl | (simp only [List.length_drop, List.length_take]; rfl)) ?_; (with_reducible refine (letterlocklaw1_pick.calls a2 (wrap64 ((t358.length : Int) + 1)) t362 _ A54.out).mono ?_); rintro e w' ⟨rfl, ⟨nd, rfl⟩⟩; refine ⟨_, rfl, ?_⟩; have q73 : (t362 : Int) ≤ ((t358.length : Int) : Int) := of_decide_eq_true (by first | (with_reducible assumption) | assumption); obtain ⟨i073, hi073, _, hsz73, _⟩ := info_parts info21; have hroom73 : t358.length ≤ co72 := (Kd.R_reads' HO361.out).2.1; have hC73 : Kd.C (Kd.int .i32) _ Ao72 t358.length t358 := (Kd.R_reads' HO361.out).2.2; have hcut73 := cut_to (P := Tryd.prog) 33 21 .i64 Tryd.underlying33 hi073 Ao72 t358.length co72 t362 (of_decide_eq_true (by first | (with_reducible assumption) | assumption)) q73 hroom73; have hr73 := Kd.C_take (m := (t362 : Int).toNat) hC73 (by omega); have hy73 : y363.length = (t362 : Int).toNat := (by rw [Ny363.out, List.length_take]; omega); rw [← Ny363.out] at hr73; rw [← hy73] at hcut73; have HR366 := Aside0.mk hr73; have HC366 := Aside0.mk (show y363.length ≤ co72 from by omega); clear hr73 hC73 hroom73 hi073 hsz73; have KY73 := Aside0.mk hy73; clear hy73; have KL73 := Aside0.mk (show (t362 : Int).toNat ≤ t358.length from by omega); replace q73 := eq_true q73) | ((with_reducible refine gate_callee (f := 18) rfl ?_); refine goesL_ (some 102) rfl rfl Tryd.func18 (by kernel_rfl) rfl #[.slice Ao72 y363.length co72] rfl (by (try simp only [List.map_toArray, List.map_cons, List.map_nil]); first | done | rfl | (simp only [List.length_drop, List.length_take]; rfl)) ?_; (with_reducible refine (name_Make.calls _ _ y363 t367 t368 _ ?side1 ?side2 A57.out).mono ?_); (case side1 => repeat (first | exact (by repeat (first | (with_reducible exact HR366.out) | (with_reducible refine Kd.C_alloc ?_ _) | (with_reducible refine Kd.C_drewN ?_ _) | (with_reducible refine Kd.C_drew ?_) | exact HR366.out)) | (with_reducible refine Kd.C_alloc ?_ _) | (with_reducible refine Kd.C_drewN ?_ _) | (with_reducible refine Kd.C_drew ?_))); (case side2 => exact HC366.out); rintro e w74 ⟨rfl, hb⟩; refine ⟨_, rfl, ?_⟩; have n0_ := Aside0.mk (Kd.R_below (by (with_reducible repeat (first | apply Kd.R_alloc | apply Kd.R_drewN | apply Kd.R_drew)); exact HO361.out) hb); have n1_ := Aside0.mk (Kd.C_below (by repeat (first | (with_reducible exact HR366.out) | (with_reducible refine Kd.C_alloc ?_ _) | (with_reducible refine Kd.C_drewN ?_ _) | (with_reducible refine Kd.C_drew ?_) | exact HR366.out)) hb); have n2_ := Aside0.mk (below_step (by repeat (first | (with_reducible first | exact HB.out | apply below_alloc | apply pw_below_drewN | apply below_drew1) | exact HB.out)) hb); clear HO361; clear HR366; clear HB; have HO361 := n0_; have HR366 := n1_; have HB := n2_; clear n0_ n1_ n2_; (try clear hb); (try clear hb2); (try clear hk); (try clear hi); have q75 : (t362 : Int) ≤ ((t358.length : Int) : Int) := of_decide_eq_true (by first | (with_reducible assumption) | assumption); obtain ⟨i075, hi075, _, hsz75, _⟩ := info_parts info21; have hroom75 : t358.length ≤ co72 := (Kd.R_reads' HO361.out).2.1; have hC75 : Kd.C (Kd.int .i32) _ Ao72 t358.length t358 := (Kd.R_reads' HO361.out).2.2; have q075 : (0 : Int) ≤ (t362 : Int) := of_decide_eq_true (by first | (with_reducible assumption) | assumption); have hcut75 := cut_from (P := Tryd.prog) 33 21 .i64 Tryd.underlying33 hi075 1 hsz75 Ao72 t358.length co72 t362 q075 q75; have hr75 := Kd.C_drop (m := (t362 : Int).toNat) (c := co72) hC75 (by omega) hroom75; obtain ⟨A75, hA75⟩ : ∃ A1, A1 = (if co72 = (t362 : Int).toNat then Ao72 else (Ao72 : Option Addr).map (·.add ((t362 : Int).toNat * 1))) := ⟨_, rfl⟩; obtain ⟨c75, hc75⟩ : ∃ c1, c1 = co72 - (t362 : Int).toNat := ⟨_, rfl⟩; have hy75 : y369.length = t358.length - (t362 : Int).toNat := (by rw [Ny369.out, List.length_drop] <;> omega); rw [show (t358).drop (t362 : Int).toNat = y369 from Ny369.out.symm] at hr75; replace hr75 : Kd.C (Kd.int .i32) _ A75 y369.length y369 := (by rw [hA75]; exact hr75); rw [← hy75, ← hA75, ← hc75] at hcut75; have HR372 := Aside0.mk hr75; have HC372 := Aside0.mk (show y369.length ≤ c75 from by rw [hy75, hc75]; exact Nat.sub_le_sub_right hroom75 _); clear hr75 hC75 hroom75 hi075 hsz75 hc75; have KY75 := Aside0.mk hy75; have KA75 := Aside0.mk hA75; clear hy75 hA75; have KL75 := Aside0.mk (show (t362 : Int).toNat ≤ t358.length from by omega); replace q75 := eq_true q75) | ((with_reducible refine gate_callee (f := 18) rfl ?_); refine goesL_ (some 109) rfl rfl Tryd.func18 (by kernel_rfl) rfl #[.slice A75 y369.length c75] rfl (by (try simp only [List.map_toArray, List.map_cons, List.map_nil]); first | done | rfl | (simp only [List.length_drop, List.length_take]; rfl)) ?_; (with_reducible refine (name_Make.calls _ _ y369 t373 t374 _ ?side1 ?side2 A60.out).mono ?_); (case side1 => repeat (first | exact (by repeat (first | (with_reducible exact HR372.out) | (with_reducible refine Kd.C_alloc ?_ _) | (with_reducible refine Kd.C_drewN ?_ _) | (with_reducible refine Kd.C_drew ?_) | exact HR372.out)) | (with_reducible refine Kd.C_alloc ?_ _) | (with_reducible refine Kd.C_drewN ?_ _) | (with_reducible refine Kd.C_drew ?_))); (case side2 => exact HC372.out); rintro e w76 ⟨rfl, hb⟩; refine ⟨_, rfl, ?_⟩; have n0_ := Aside0.mk (Kd.R_below (by (with_reducible repeat (first | apply Kd.R_alloc | apply Kd.R_drewN | apply Kd.R_drew)); exact HO361.out) hb); have n1_ := Aside0.mk (Kd.C_below (by repeat (first | (with_reducible exact HR366.out) | (with_reducible refine Kd.C_alloc ?_ _) | (with_reducible refine Kd.C_drewN ?_ _) | (with_reducible refine Kd.C_drew ?_) | exact HR366.out)) hb); have n2_ := Aside0.mk (Kd.C_below (by repeat (first | (with_reducible exact HR372.out) | (with_reducible refine Kd.C_alloc ?_ _) | (with_reducible refine Kd.C_drewN ?_ _) | (with_reducible refine Kd.C_drew ?_) | exact HR372.out)) hb); have n3_ := Aside0.mk (below_step (by repeat (first | (with_reducible first | exact HB.out | apply below_alloc | apply pw_below_drewN | apply below_drew1) | exact HB.out)) hb); clear HO361; clear HR366; clear HR372; clear HB; have HO361 := n0_; have HR366 := n1_; have HR372 := n2_; have HB := n3_; clear n0_ n1_ n2_ n3_; (try clear hb); (try clear hb2); (try clear hk); (try clear hi)) | ((with_reducible refine gate_dst (N := 112) rfl ?_); (try (refine gate_guard (by rfl) ?_; dsimp only)); refine Kd.R_lit Kd.string _ 9 ?hg (N := 112) ?hd (xs := ([(⟨#[65]⟩ : ByteArray), (⟨#[32]⟩ : ByteArray), (⟨#[47]⟩ : ByteArray), (⟨#[95]⟩ : ByteArray), (⟨#[128]⟩ : ByteArray), (⟨#[195]⟩ : ByteArray), (⟨#[195, 151]⟩ : ByteArray), (⟨#[207, 130, 204, 129]⟩ : ByteArray)] : List ByteArray)) (inner := [.string (⟨#[65]⟩ : ByteArray), .string (⟨#[32]⟩ : ByteArray), .string (⟨#[47]⟩ : ByteArray), .string (⟨#[95]⟩ : ByteArray), .string (⟨#[128]⟩ : ByteArray), .string (⟨#[195]⟩ : ByteArray), .string (⟨#[195, 151]⟩ : ByteArray), .string (⟨#[207, 130, 204, 129]⟩ : ByteArray)]) (ok := fun _ => True) (okp := fun _ => True) ?hr ?hp (fun _ hk => hk) trivial (Below.refl _ _) (Nat.le_refl _) (by simp) ?_; (case hd => rfl); (case hg => rfl); (case hr => first | (go_simp; done) | (go_simp; rfl)); (case hp => exact (Reps.one (show Kd.M Kd.string _ _ _ (⟨#[65]⟩ : ByteArray) [.string (⟨#[65]⟩ : ByteArray)] from rfl) (Reps.one (show Kd.M Kd.string _ _ _ (⟨#[32]⟩ : ByteArray) [.string (⟨#[32]⟩ : ByteArray)] from rfl) (Reps.one (show Kd.M Kd.string _ _ _ (⟨#[47]⟩ : ByteArray) [.string (⟨#[47]⟩ : ByteArray)] from rfl) (Reps.one (show Kd.M Kd.string _ _ _ (⟨#[95]⟩ : ByteArray) [.string (⟨#[95]⟩ : ByteArray)] from rfl) (Reps.one (show Kd.M Kd.string _ _ _ (⟨#[128]⟩ : ByteArray) [.string (⟨#[128]⟩ : ByteArray)] from rfl) (Reps.one (show Kd.M Kd.string _ _ _ (⟨#[195]⟩ : ByteArray) [.string (⟨#[195]⟩ : ByteArray)] from rfl) (Reps.one (show Kd.M Kd.string _ _ _ (⟨#[195, 151]⟩ : ByteArray) [.string (⟨#[195, 151]⟩ : ByteArray)] from rfl) (Reps.one (show Kd.M Kd.string _ _ _ (⟨#[207, 130, 204, 129]⟩ : ByteArray) [.string (⟨#[207, 130, 204, 129]⟩ : ByteArray)] from rfl) (Reps.none _ _)))))))))); intro v376 w77 ho78 hb hg_ hnew_; clear hg_ hnew_; (first | rw [← Ny375.out] at ho78 | (simp only [Int.reduceToNat] at ho78; rw [← Ny375.out] at ho78)); have n0_ := Aside0.mk (Kd.R_below (by (with_reducible repeat (first | apply Kd.R_alloc | apply Kd.R_drewN | apply Kd.R_drew)); exact HO361.out) hb); have n1_ := Aside0.mk (Kd.R_lower ho78 (below_size (by repeat (first | (with_reducible first | exact HB.out | apply below_alloc | apply pw_below_drewN | apply below_drew1) | exact HB.out)))); have n2_ := Aside0.mk (Kd.C_below (by repeat (first | (with_reducible exact HR366.out) | (with_reducible refine Kd.C_alloc ?_ _) | (with_reducible refine Kd.C_drewN ?_ _) | (with_reducible refine Kd.C_drew ?_) | exact HR366.out)) hb); have n3_ := Aside0.mk (Kd.C_below (by repeat (first | (with_reducible exact HR372.out) | (with_reducible refine Kd.C_alloc ?_ _) | (with_reducible refine Kd.C_drewN ?_ _) | (with_reducible refine Kd.C_drew ?_) | exact HR372.out)) hb); have n4_ := Aside0.mk (below_step (by repeat (first | (with_reducible first | exact HB.out | apply below_alloc | apply pw_below_drewN | apply below_drew1) | exact HB.out)) hb); clear HO361; clear HR366; clear HR372; clear HB; have HO361 := n0_; have HO377 := n1_; have HR366 := n2_; have HR372 := n3_; have HB := n4_; clear n0_ n1_ n2_ n3_ n4_; clear hb ho78; obtain ⟨Ao79, co79, eo79⟩ := Kd.R_slice HO377.out; subst eo79) | ((with_reducible refine gate_callee (f := 20) rfl ?_); refine goesL_ (some 118) rfl rfl Tryd.func20 (by kernel_rfl) rfl #[.int .i64 a2, .int .i64 (y375.length : Int)] rfl (by (try simp only [List.map_toArray, List.map_cons, List.map_nil]); first | done | rfl | (simp only [List.length_drop, List.length_take]; rfl)) ?_; (with_reducible refine (letterlocklaw1_pick.calls a2 (y375.length : Int) t378 _ A61.out).mono ?_); rintro e w' ⟨rfl, ⟨nd, rfl⟩⟩; refine ⟨_, rfl, ?_⟩; have p379 : 0 ≤ (t378 : Int) := of_decide_eq_true (by first | (with_reducible assumption) | assumption); have q379 : t378 < (y375.length : Int) := of_decide_eq_true (by first | (with_reducible assumption) | assumption); obtain ⟨ad379, e379, hx379_0⟩ := Kd.at_string (Kd.R_reads' HO377.out).2.2 t378 p379 q379; cases e379; replace p379 := eq_true p379; replace q379 := eq_true q379) | ((with_reducible refine gate_callee (f := 14) rfl ?_); refine goesL_ (some 129) rfl rfl Tryd.func14 (by kernel_rfl) rfl #[.string ((((t367 ++ (rdOf ByteArray.empty y375 t378)) ++ t373) ++ (⟨#[47]⟩ : ByteArray)) ++ t347)] rfl (by (try simp only [List.map_toArray, List.map_cons, List.map_nil]); first | done | rfl | (simp only [List.length_drop, List.length_take]; rfl)) ?_; (with_reducible refine (name_Split.calls ((((t367 ++ (rdOf ByteArray.empty y375 t378)) ++ t373) ++ (⟨#[47]⟩ : ByteArray)) ++ t347) t380 t381 t382 _ ?side1 A68.out).mono ?_); (case side1 => exact ⟨Tabs.below HTB.out (by repeat (first | (with_reducible first | exact HB.out | apply below_alloc | apply pw_below_drewN | apply below_drew1) | exact HB.out))⟩); rintro e w80 ⟨rfl, hb⟩; refine ⟨_, rfl, ?_⟩; have n0_ := Aside0.mk (Kd.R_below (by (with_reducible repeat (first | apply Kd.R_alloc | apply Kd.R_drewN | apply Kd.R_drew)); exact HO361.out) hb); have n1_ := Aside0.mk (Kd.R_below (by (with_reducible repeat (first | apply Kd.R_alloc | apply Kd.R_drewN | apply Kd.R_drew)); exact HO377.out) hb); have n2_ := Aside0.mk (Kd.C_below (by repeat (first | (with_reducible exact HR366.out) | (with_reducible refine Kd.C_alloc ?_ _) | (with_reducible refine Kd.C_drewN ?_ _) | (with_reducible refine Kd.C_drew ?_) | exact HR366.out)) hb); have n3_ := Aside0.mk (Kd.C_below (by repeat (first | (with_reducible exact HR372.out) | (with_reducible refine Kd.C_alloc ?_ _) | (with_reducible refine Kd.C_drewN ?_ _) | (with_reducible refine Kd.C_drew ?_) | exact HR372.out)) hb); have n4_ := Aside0.mk (below_step (by repeat (first | (with_reducible first | exact HB.out | apply below_alloc | apply pw_below_drewN | apply below_drew1) | exact HB.out)) hb); clear HO361; clear HO377; clear HR366; clear HR372; clear HB; have HO361 := n0_; have HO377 := n1_; have HR366 := n2_; have HR372 := n3_; have HB := n4_; clear n0_ n1_ n2_ n3_ n4_; (try clear hb); (try clear hb2); (try clear hk); (try clear hi)))
                          by_cases c70 : t383 = true
                          · subst c70
                            have H1 : (some false) = some r := by rw [if_pos rfl] at H; exact H
                            clear H
                            have H := H1
                            clear H1
                            obtain rfl := Option.some.inj H
                            (with_reducible refine (name_Right.calls ((t367 ++ (rdOf ByteArray.empty y375 t378)) ++ t373) true _ ?side1 A69.out).mono ?_)
                            (case side1 => exact ⟨Tabs.below HTB.out (by repeat (first | (with_reducible first | exact HB.out | apply below_alloc | apply pw_below_drewN | apply below_drew1) | exact HB.out))⟩)
                            rintro e w81 ⟨rfl, hb⟩
                            have n0_ := Aside0.mk (Kd.R_below (by (with_reducible repeat (first | apply Kd.R_alloc | apply Kd.R_drewN | apply Kd.R_drew)); exact HO361.out) hb)
                            have n1_ := Aside0.mk (Kd.R_below (by (with_reducible repeat (first | apply Kd.R_alloc | apply Kd.R_drewN | apply Kd.R_drew)); exact HO377.out) hb)
                            have n2_ := Aside0.mk (Kd.C_below (by repeat (first | (with_reducible exact HR366.out) | (with_reducible refine Kd.C_alloc ?_ _) | (with_reducible refine Kd.C_drewN ?_ _) | (with_reducible refine Kd.C_drew ?_) | exact HR366.out)) hb)
                            have n3_ := Aside0.mk (Kd.C_below (by repeat (first | (with_reducible exact HR372.out) | (with_reducible refine Kd.C_alloc ?_ _) | (with_reducible refine Kd.C_drewN ?_ _) | (with_reducible refine Kd.C_drew ?_) | exact HR372.out)) hb)
                            have n4_ := Aside0.mk (below_step (by repeat (first | (with_reducible first | exact HB.out | apply below_alloc | apply pw_below_drewN | apply below_drew1) | exact HB.out)) hb)
                            clear HO361
                            clear HO377
                            clear HR366
                            clear HR372
                            clear HB
                            have HO361 := n0_
                            have HO377 := n1_
                            have HR366 := n2_
                            have HR372 := n3_
                            have HB := n4_
                            clear n0_ n1_ n2_ n3_ n4_
                            (try clear hb)
                            (try clear hb2)
                            (try clear hk)
                            (try clear hi)
                            go_wp2
                            go_ret
                            exact ⟨by first | rfl | (simp [errW_none, errW_some] <;> rfl) | (simp [*, errW_none, errW_some] <;> rfl), by repeat (first | (with_reducible first | exact HB.out | apply below_alloc | apply pw_below_drewN | apply below_drew1) | exact HB.out)⟩
                          · replace c70 := Bool.eq_false_iff.mpr c70
                            subst c70
                            have H1 : (if t382 = 3 then ((name_Right.f (⟨#[]⟩ : ByteArray)).bind fun t384 => (if t384 = true then (some false) else (if (t358.length : Int) < 32 then (some true) else (if t346.size + 1 ≤ 9223372036854775807 then ((name_Right.f (t346 ++ (⟨#[97]⟩ : ByteArray))).bind fun t385 => (some (!t385))) else (none))))) else (some false)) = some r := by rw [if_neg (show ¬ (false = true) by decide)] at H; exact H
                            clear H
                            have H := H1
                            clear H1
                            by_cases c82 : t382 = 3
                            · rw [if_pos c82] at H
                              have c82b0 : (t382 == 3) = true := beq_iff_eq.mpr c82
                              have c82b1 : (t382 != 3) = false := bne_eq_false_iff_eq.mpr c82
                              clear c82
                              replace H := Option.bind_eq_some_iff.mp H
                              obtain ⟨t384, A830, H⟩ := H
                              replace H : (if t384 = true then (some false) else (if (t358.length : Int) < 32 then (some true) else (if t346.size + 1 ≤ 9223372036854775807 then ((name_Right.f (t346 ++ (⟨#[97]⟩ : ByteArray))).bind fun t385 => (some (!t385))) else (none)))) = some r := H
                              have A83 := Aside0.mk A830
                              clear A830
                              by_cases c84 : t384 = true
                              · subst c84
                                have H1 : (some false) = some r := by rw [if_pos rfl] at H; exact H
                                clear H
                                have H := H1
                                clear H1
                                obtain rfl := Option.some.inj H
                                (with_reducible refine (name_Right.calls ((t367 ++ (rdOf ByteArray.empty y375 t378)) ++ t373) false _ ?side1 A69.out).mono ?_)
                                (case side1 => exact ⟨Tabs.below HTB.out (by repeat (first | (with_reducible first | exact HB.out | apply below_alloc | apply pw_below_drewN | apply below_drew1) | exact HB.out))⟩)
                                rintro e w95 ⟨rfl, hb⟩
                                have n0_ := Aside0.mk (Kd.R_below (by (with_reducible repeat (first | apply Kd.R_alloc | apply Kd.R_drewN | apply Kd.R_drew)); exact HO361.out) hb)
                                have n1_ := Aside0.mk (Kd.R_below (by (with_reducible repeat (first | apply Kd.R_alloc | apply Kd.R_drewN | apply Kd.R_drew)); exact HO377.out) hb)
                                have n2_ := Aside0.mk (Kd.C_below (by repeat (first | (with_reducible exact HR366.out) | (with_reducible refine Kd.C_alloc ?_ _) | (with_reducible refine Kd.C_drewN ?_ _) | (with_reducible refine Kd.C_drew ?_) | exact HR366.out)) hb)
                                have n3_ := Aside0.mk (Kd.C_below (by repeat (first | (with_reducible exact HR372.out) | (with_reducible refine Kd.C_alloc ?_ _) | (with_reducible refine Kd.C_drewN ?_ _) | (with_reducible refine Kd.C_drew ?_) | exact HR372.out)) hb)
                                have n4_ := Aside0.mk (below_step (by repeat (first | (with_reducible first | exact HB.out | apply below_alloc | apply pw_below_drewN | apply below_drew1) | exact HB.out)) hb)
                                clear HO361
                                clear HO377
                                clear HR366
                                clear HR372
                                clear HB
                                have HO361 := n0_
                                have HO377 := n1_
                                have HR366 := n2_
                                have HR372 := n3_
                                have HB := n4_
                                clear n0_ n1_ n2_ n3_ n4_
                                (try clear hb)
                                (try clear hb2)
                                (try clear hk)
                                (try clear hi)
                                go_wp2_with (first | (go_at_call 21; (with_reducible refine (name_Right.calls (⟨#[]⟩ : ByteArray) true _ ?side1 A83.out).mono ?_); (case side1 => exact ⟨Tabs.below HTB.out (by repeat (first | (with_reducible first | exact HB.out | apply below_alloc | apply pw_below_drewN | apply below_drew1) | exact HB.out))⟩); rintro e w96 ⟨rfl, hb⟩; have n0_ := Aside0.mk (Kd.R_below (by (with_reducible repeat (first | apply Kd.R_alloc | apply Kd.R_drewN | apply Kd.R_drew)); exact HO361.out) hb); have n1_ := Aside0.mk (Kd.R_below (by (with_reducible repeat (first | apply Kd.R_alloc | apply Kd.R_drewN | apply Kd.R_drew)); exact HO377.out) hb); have n2_ := Aside0.mk (Kd.C_below (by repeat (first | (with_reducible exact HR366.out) | (with_reducible refine Kd.C_alloc ?_ _) | (with_reducible refine Kd.C_drewN ?_ _) | (with_reducible refine Kd.C_drew ?_) | exact HR366.out)) hb); have n3_ := Aside0.mk (Kd.C_below (by repeat (first | (with_reducible exact HR372.out) | (with_reducible refine Kd.C_alloc ?_ _) | (with_reducible refine Kd.C_drewN ?_ _) | (with_reducible refine Kd.C_drew ?_) | exact HR372.out)) hb); have n4_ := Aside0.mk (below_step (by repeat (first | (with_reducible first | exact HB.out | apply below_alloc | apply pw_below_drewN | apply below_drew1) | exact HB.out)) hb); clear HO361; clear HO377; clear HR366; clear HR372; clear HB; have HO361 := n0_; have HO377 := n1_; have HR366 := n2_; have HR372 := n3_; have HB := n4_; clear n0_ n1_ n2_ n3_ n4_; (try clear hb); (try clear hb2); (try clear hk); (try clear hi)))
                                go_ret
                                exact ⟨by first | rfl | (simp [errW_none, errW_some] <;> rfl) | (simp [*, errW_none, errW_some] <;> rfl), by repeat (first | (with_reducible first | exact HB.out | apply below_alloc | apply pw_below_drewN | apply below_drew1) | exact HB.out)⟩
                              · replace c84 := Bool.eq_false_iff.mpr c84
                                subst c84
                                have H1 : (if (t358.length : Int) < 32 then (some true) else (if t346.size + 1 ≤ 9223372036854775807 then ((name_Right.f (t346 ++ (⟨#[97]⟩ : ByteArray))).bind fun t385 => (some (!t385))) else (none))) = some r := by rw [if_neg (show ¬ (false = true) by decide)] at H; exact H
                                clear H
                                have H := H1
                                clear H1
                                by_cases c97 : (t358.length : Int) < 32
                                · rw [if_pos c97] at H
                                  have c97b0 : decide ((t358.length : Int) < 32) = true := decide_eq_true c97
                                  have c97b1 : decide (t358.length < 32) = true := decide_eq_true (by omega)
                                  clear c97
                                  obtain rfl := Option.some.inj H
                                  (with_reducible refine (name_Right.calls ((t367 ++ (rdOf ByteArray.empty y375 t378)) ++ t373) false _ ?side1 A69.out).mono ?_)
                                  (case side1 => exact ⟨Tabs.below HTB.out (by repeat (first | (with_reducible first | exact HB.out | apply below_alloc | apply pw_below_drewN | apply below_drew1) | exact HB.out))⟩)
                                  rintro e w108 ⟨rfl, hb⟩
                                  have n0_ := Aside0.mk (Kd.R_below (by (with_reducible repeat (first | apply Kd.R_alloc | apply Kd.R_drewN | apply Kd.R_drew)); exact HO361.out) hb)
                                  have n1_ := Aside0.mk (Kd.R_below (by (with_reducible repeat (first | apply Kd.R_alloc | apply Kd.R_drewN | apply Kd.R_drew)); exact HO377.out) hb)
                                  have n2_ := Aside0.mk (Kd.C_below (by repeat (first | (with_reducible exact HR366.out) | (with_reducible refine Kd.C_alloc ?_ _) | (with_reducible refine Kd.C_drewN ?_ _) | (with_reducible refine Kd.C_drew ?_) | exact HR366.out)) hb)
                                  have n3_ := Aside0.mk (Kd.C_below (by repeat (first | (with_reducible exact HR372.out) | (with_reducible refine Kd.C_alloc ?_ _) | (with_reducible refine Kd.C_drewN ?_ _) | (with_reducible refine Kd.C_drew ?_) | exact HR372.out)) hb)
                                  have n4_ := Aside0.mk (below_step (by repeat (first | (with_reducible first | exact HB.out | apply below_alloc | apply pw_below_drewN | apply below_drew1) | exact HB.out)) hb)
                                  clear HO361
                                  clear HO377
                                  clear HR366
                                  clear HR372
                                  clear HB
                                  have HO361 := n0_
                                  have HO377 := n1_
                                  have HR366 := n2_
                                  have HR372 := n3_
                                  have HB := n4_
                                  clear n0_ n1_ n2_ n3_ n4_
                                  (try clear hb)
                                  (try clear hb2)
                                  (try clear hk)
                                  (try clear hi)
                                  go_wp2_with (first | (go_at_call 21; (with_reducible refine (name_Right.calls (⟨#[]⟩ : ByteArray) false _ ?side1 A83.out).mono ?_); (case side1 => exact ⟨Tabs.below HTB.out (by repeat (first | (with_reducible first | exact HB.out | apply below_alloc | apply pw_below_drewN | apply below_drew1) | exact HB.out))⟩); rintro e w109 ⟨rfl, hb⟩; have n0_ := Aside0.mk (Kd.R_below (by (with_reducible repeat (first | apply Kd.R_alloc | apply Kd.R_drewN | apply Kd.R_drew)); exact HO361.out) hb); have n1_ := Aside0.mk (Kd.R_below (by (with_reducible repeat (first | apply Kd.R_alloc | apply Kd.R_drewN | apply Kd.R_drew)); exact HO377.out) hb); have n2_ := Aside0.mk (Kd.C_below (by repeat (first | (with_reducible exact HR366.out) | (with_reducible refine Kd.C_alloc ?_ _) | (with_reducible refine Kd.C_drewN ?_ _) | (with_reducible refine Kd.C_drew ?_) | exact HR366.out)) hb); have n3_ := Aside0.mk (Kd.C_below (by repeat (first | (with_reducible exact HR372.out) | (with_reducible refine Kd.C_alloc ?_ _) | (with_reducible refine Kd.C_drewN ?_ _) | (with_reducible refine Kd.C_drew ?_) | exact HR372.out)) hb); have n4_ := Aside0.mk (below_step (by repeat (first | (with_reducible first | exact HB.out | apply below_alloc | apply pw_below_drewN | apply below_drew1) | exact HB.out)) hb); clear HO361; clear HO377; clear HR366; clear HR372; clear HB; have HO361 := n0_; have HO377 := n1_; have HR366 := n2_; have HR372 := n3_; have HB := n4_; clear n0_ n1_ n2_ n3_ n4_; (try clear hb); (try clear hb2); (try clear hk); (try clear hi)))
                                  go_ret
                                  exact ⟨by first | rfl | (simp [errW_none, errW_some] <;> rfl) | (simp [*, errW_none, errW_some] <;> rfl), by repeat (first | (with_reducible first | exact HB.out | apply below_alloc | apply pw_below_drewN | apply below_drew1) | exact HB.out)⟩
                                · rw [if_neg c97] at H
                                  have c97b0 : decide ((t358.length : Int) < 32) = false := decide_eq_false c97
                                  have c97b1 : decide (t358.length < 32) = false := decide_eq_false (by omega)
                                  clear c97
                                  by_cases c110 : t346.size + 1 ≤ 9223372036854775807
                                  · rw [if_pos c110] at H
                                    have c110b0 := eq_true c110
                                    have c110b1 : decide (t346.size + 1 ≤ 9223372036854775807) = true := decide_eq_true c110
                                    try have c110b2 : (9223372036854775807 < t346.size + 1) = False := eq_false (Nat.not_lt.2 c110)
                                    replace H := Option.bind_eq_some_iff.mp H
                                    obtain ⟨t385, A1110, H⟩ := H
                                    replace H : (some (!t385)) = some r := H
                                    have A111 := Aside0.mk A1110
                                    clear A1110
                                    obtain rfl := Option.some.inj H
                                    (with_reducible refine (name_Right.calls ((t367 ++ (rdOf ByteArray.empty y375 t378)) ++ t373) false _ ?side1 A69.out).mono ?_)
                                    (case side1 => exact ⟨Tabs.below HTB.out (by repeat (first | (with_reducible first | exact HB.out | apply below_alloc | apply pw_below_drewN | apply below_drew1) | exact HB.out))⟩)
                                    rintro e w122 ⟨rfl, hb⟩
                                    have n0_ := Aside0.mk (Kd.R_below (by (with_reducible repeat (first | apply Kd.R_alloc | apply Kd.R_drewN | apply Kd.R_drew)); exact HO361.out) hb)
                                    have n1_ := Aside0.mk (Kd.R_below (by (with_reducible repeat (first | apply Kd.R_alloc | apply Kd.R_drewN | apply Kd.R_drew)); exact HO377.out) hb)
                                    have n2_ := Aside0.mk (Kd.C_below (by repeat (first | (with_reducible exact HR366.out) | (with_reducible refine Kd.C_alloc ?_ _) | (with_reducible refine Kd.C_drewN ?_ _) | (with_reducible refine Kd.C_drew ?_) | exact HR366.out)) hb)
                                    have n3_ := Aside0.mk (Kd.C_below (by repeat (first | (with_reducible exact HR372.out) | (with_reducible refine Kd.C_alloc ?_ _) | (with_reducible refine Kd.C_drewN ?_ _) | (with_reducible refine Kd.C_drew ?_) | exact HR372.out)) hb)
                                    have n4_ := Aside0.mk (below_step (by repeat (first | (with_reducible first | exact HB.out | apply below_alloc | apply pw_below_drewN | apply below_drew1) | exact HB.out)) hb)
                                    clear HO361
                                    clear HO377
                                    clear HR366
                                    clear HR372
                                    clear HB
                                    have HO361 := n0_
                                    have HO377 := n1_
                                    have HR366 := n2_
                                    have HR372 := n3_
                                    have HB := n4_
                                    clear n0_ n1_ n2_ n3_ n4_
                                    (try clear hb)
                                    (try clear hb2)
                                    (try clear hk)
                                    (try clear hi)
                                    go_wp2_with (first | (go_at_call 21; (with_reducible refine (name_Right.calls (⟨#[]⟩ : ByteArray) false _ ?side1 A83.out).mono ?_); (case side1 => exact ⟨Tabs.below HTB.out (by repeat (first | (with_reducible first | exact HB.out | apply below_alloc | apply pw_below_drewN | apply below_drew1) | exact HB.out))⟩); rintro e w123 ⟨rfl, hb⟩; have n0_ := Aside0.mk (Kd.R_below (by (with_reducible repeat (first | apply Kd.R_alloc | apply Kd.R_drewN | apply Kd.R_drew)); exact HO361.out) hb); have n1_ := Aside0.mk (Kd.R_below (by (with_reducible repeat (first | apply Kd.R_alloc | apply Kd.R_drewN | apply Kd.R_drew)); exact HO377.out) hb); have n2_ := Aside0.mk (Kd.C_below (by repeat (first | (with_reducible exact HR366.out) | (with_reducible refine Kd.C_alloc ?_ _) | (with_reducible refine Kd.C_drewN ?_ _) | (with_reducible refine Kd.C_drew ?_) | exact HR366.out)) hb); have n3_ := Aside0.mk (Kd.C_below (by repeat (first | (with_reducible exact HR372.out) | (with_reducible refine Kd.C_alloc ?_ _) | (with_reducible refine Kd.C_drewN ?_ _) | (with_reducible refine Kd.C_drew ?_) | exact HR372.out)) hb); have n4_ := Aside0.mk (below_step (by repeat (first | (with_reducible first | exact HB.out | apply below_alloc | apply pw_below_drewN | apply below_drew1) | exact HB.out)) hb); clear HO361; clear HO377; clear HR366; clear HR372; clear HB; have HO361 := n0_; have HO377 := n1_; have HR366 := n2_; have HR372 := n3_; have HB := n4_; clear n0_ n1_ n2_ n3_ n4_; (try clear hb); (try clear hb2); (try clear hk); (try clear hi)) | (go_at_call 21; (with_reducible refine (name_Right.calls (t346 ++ (⟨#[97]⟩ : ByteArray)) t385 _ ?side1 A111.out).mono ?_); (case side1 => exact ⟨Tabs.below HTB.out (by repeat (first | (with_reducible first | exact HB.out | apply below_alloc | apply pw_below_drewN | apply below_drew1) | exact HB.out))⟩); rintro e w124 ⟨rfl, hb⟩; have n0_ := Aside0.mk (Kd.R_below (by (with_reducible repeat (first | apply Kd.R_alloc | apply Kd.R_drewN | apply Kd.R_drew)); exact HO361.out) hb); have n1_ := Aside0.mk (Kd.R_below (by (with_reducible repeat (first | apply Kd.R_alloc | apply Kd.R_drewN | apply Kd.R_drew)); exact HO377.out) hb); have n2_ := Aside0.mk (Kd.C_below (by repeat (first | (with_reducible exact HR366.out) | (with_reducible refine Kd.C_alloc ?_ _) | (with_reducible refine Kd.C_drewN ?_ _) | (with_reducible refine Kd.C_drew ?_) | exact HR366.out)) hb); have n3_ := Aside0.mk (Kd.C_below (by repeat (first | (with_reducible exact HR372.out) | (with_reducible refine Kd.C_alloc ?_ _) | (with_reducible refine Kd.C_drewN ?_ _) | (with_reducible refine Kd.C_drew ?_) | exact HR372.out)) hb); have n4_ := Aside0.mk (below_step (by repeat (first | (with_reducible first | exact HB.out | apply below_alloc | apply pw_below_drewN | apply below_drew1) | exact HB.out)) hb); clear HO361; clear HO377; clear HR366; clear HR372; clear HB; have HO361 := n0_; have HO377 := n1_; have HR366 := n2_; have HR372 := n3_; have HB := n4_; clear n0_ n1_ n2_ n3_ n4_; (try clear hb); (try clear hb2); (try clear hk); (try clear hi)))
                                    go_ret
                                    exact ⟨by first | rfl | (simp [errW_none, errW_some] <;> rfl) | (simp [*, errW_none, errW_some] <;> rfl), by repeat (first | (with_reducible first | exact HB.out | apply below_alloc | apply pw_below_drewN | apply below_drew1) | exact HB.out)⟩
                                  · rw [if_neg c110] at H
                                    exact absurd H (by simp)
                            · rw [if_neg c82] at H
                              have c82b0 : (t382 == 3) = false := beq_eq_false_iff_ne.mpr c82
                              have c82b1 : (t382 != 3) = true := bne_iff_ne.mpr c82
                              obtain rfl := Option.some.inj H
                              (with_reducible refine (name_Right.calls ((t367 ++ (rdOf ByteArray.empty y375 t378)) ++ t373) false _ ?side1 A69.out).mono ?_)
                              (case side1 => exact ⟨Tabs.below HTB.out (by repeat (first | (with_reducible first | exact HB.out | apply below_alloc | apply pw_below_drewN | apply below_drew1) | exact HB.out))⟩)
                              rintro e w135 ⟨rfl, hb⟩
                              have n0_ := Aside0.mk (Kd.R_below (by (with_reducible repeat (first | apply Kd.R_alloc | apply Kd.R_drewN | apply Kd.R_drew)); exact HO361.out) hb)
                              have n1_ := Aside0.mk (Kd.R_below (by (with_reducible repeat (first | apply Kd.R_alloc | apply Kd.R_drewN | apply Kd.R_drew)); exact HO377.out) hb)
                              have n2_ := Aside0.mk (Kd.C_below (by repeat (first | (with_reducible exact HR366.out) | (with_reducible refine Kd.C_alloc ?_ _) | (with_reducible refine Kd.C_drewN ?_ _) | (with_reducible refine Kd.C_drew ?_) | exact HR366.out)) hb)
                              have n3_ := Aside0.mk (Kd.C_below (by repeat (first | (with_reducible exact HR372.out) | (with_reducible refine Kd.C_alloc ?_ _) | (with_reducible refine Kd.C_drewN ?_ _) | (with_reducible refine Kd.C_drew ?_) | exact HR372.out)) hb)
                              have n4_ := Aside0.mk (below_step (by repeat (first | (with_reducible first | exact HB.out | apply below_alloc | apply pw_below_drewN | apply below_drew1) | exact HB.out)) hb)
                              clear HO361
                              clear HO377
                              clear HR366
                              clear HR372
                              clear HB
                              have HO361 := n0_
                              have HO377 := n1_
                              have HR366 := n2_
                              have HR372 := n3_
                              have HB := n4_
                              clear n0_ n1_ n2_ n3_ n4_
                              (try clear hb)
                              (try clear hb2)
                              (try clear hk)
                              (try clear hi)
                              go_wp2
                              go_ret
                              exact ⟨by first | rfl | (simp [errW_none, errW_some] <;> rfl) | (simp [*, errW_none, errW_some] <;> rfl), by repeat (first | (with_reducible first | exact HB.out | apply below_alloc | apply pw_below_drewN | apply below_drew1) | exact HB.out)⟩
                        · rw [if_neg c67] at H
                          exact absurd H (by simp)
                      · rw [if_neg c66] at H
                        exact absurd H (by simp)
                    · rw [if_neg c65] at H
                      exact absurd H (by simp)
                  · rw [if_neg c64] at H
                    exact absurd H (by simp)
                · rw [if_neg c63] at H
                  exact absurd H (by simp)
              · rw [if_neg c62] at H
                exact absurd H (by simp)
            · rw [if_neg c56] at H
              exact absurd H (by simp)
          · rw [if_neg c55] at H
            exact absurd H (by simp)
  · replace c5 := Bool.eq_false_iff.mpr c5
    subst c5
    have H1 : (some false) = some r := by rw [if_neg (show ¬ (false = true) by decide)] at H; exact H
    clear H
    have H := H1
    clear H1
    obtain rfl := Option.some.inj H
    go_enter Tryd.func11, Tryd.ntmps11
    go_wp2_with (first | ((with_reducible refine gate_callee (f := 12) rfl ?_); refine goesL_ (some 27) rfl rfl Tryd.func12 (by kernel_rfl) rfl #[] rfl (by (try simp only [List.map_toArray, List.map_cons, List.map_nil]); first | done | rfl | (simp only [List.length_drop, List.length_take]; rfl)) ?_; (with_reducible refine (letterlocklaw1_shown.calls  false _ ?side1 A4.out).mono ?_); (case side1 => exact ⟨Tabs.below HTB.out (by repeat (first | (with_reducible first | exact HB.out | apply below_alloc | apply pw_below_drewN | apply below_drew1) | exact HB.out))⟩); rintro e w136 ⟨rfl, hb⟩; refine ⟨_, rfl, ?_⟩; have n0_ := Aside0.mk (below_step (by repeat (first | (with_reducible first | exact HB.out | apply below_alloc | apply pw_below_drewN | apply below_drew1) | exact HB.out)) hb); clear HB; have HB := n0_; clear n0_; (try clear hb); (try clear hb2); (try clear hk); (try clear hi)))
    go_ret
    exact ⟨by first | rfl | (simp [errW_none, errW_some] <;> rfl) | (simp [*, errW_none, errW_some] <;> rfl), by repeat (first | (with_reducible first | exact HB.out | apply below_alloc | apply pw_below_drewN | apply below_drew1) | exact HB.out)⟩

end Go.Proofs.YtngdpoghfacokaaDoor.PA
