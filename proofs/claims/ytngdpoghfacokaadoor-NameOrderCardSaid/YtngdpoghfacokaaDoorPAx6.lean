-- printed by a program of this session (a copy of print.py that takes stubs) out of the translation; Lean checks it
import Derived.Test.YtngdpoghfacokaaDoorPAx0
import Derived.Test.YtngdpoghfacokaaDoorPAx5
namespace Go.Proofs.YtngdpoghfacokaaDoor.PA
open Go.RowKit Go.Proofs.YtngdpoghfacokaaDoorW.PrintWords Go.Proofs.YtngdpoghfacokaaDoorW.PrintLast Go.Proofs.YtngdpoghfacokaaDoorW.PrintMore
attribute [local go_sem] max2_int min2_int max_two min_two max_three min_three max_four min_four   -- for this text's walks alone
set_option linter.unusedVariables false
set_option linter.unusedSimpArgs false

/-! ### letterlocklaw1_NameOrder: function 3 -/
mutual
def letterlocklaw1_NameOrder.j0 : Nat → ByteArray → ByteArray → ByteArray → Bool → Bool → Option (Bool)
  | 0, _, _, _, _, _ => none
  | k + 1, x0, x1, x2, x7, x25 => if x25 = true then (some x7) else ((name_Less.f x0 x1).bind fun t182 => ((name_Less.f x1 x0).bind fun t183 => (if t182 = true then (if t183 = true then (letterlocklaw1_NameOrder.j1 k x0 x1 x2 t182 true) else (letterlocklaw1_NameOrder.j1 k x0 x1 x2 t182 false)) else (letterlocklaw1_NameOrder.j1 k x0 x1 x2 t182 ((!t183) != (x0.toList == x1.toList))))))
def letterlocklaw1_NameOrder.j1 : Nat → ByteArray → ByteArray → ByteArray → Bool → Bool → Option (Bool)
  | 0, _, _, _, _, _ => none
  | k + 1, x0, x1, x2, x8, x48 => if x48 = true then (some false) else ((name_Less.f x1 x2).bind fun t184 => ((name_Less.f x0 x2).bind fun t185 => (if x8 = true then (if t184 = true then (if t185 = true then ((name_Less.f x0 x0).bind fun t186 => (if t186 = true then (some false) else (if x0.size + 1 ≤ 9223372036854775807 then ((name_Less.f x0 (x0 ++ (⟨#[97]⟩ : ByteArray))).bind fun t187 => (if t187 = true then ((name_Less.f (x0 ++ (⟨#[97]⟩ : ByteArray)) x0).bind fun t188 => (some (!t188))) else (some false))) else (none)))) else (some false)) else ((name_Less.f x0 x0).bind fun t189 => (if t189 = true then (some false) else (if x0.size + 1 ≤ 9223372036854775807 then ((name_Less.f x0 (x0 ++ (⟨#[97]⟩ : ByteArray))).bind fun t190 => (if t190 = true then ((name_Less.f (x0 ++ (⟨#[97]⟩ : ByteArray)) x0).bind fun t191 => (some (!t191))) else (some false))) else (none))))) else ((name_Less.f x0 x0).bind fun t192 => (if t192 = true then (some false) else (if x0.size + 1 ≤ 9223372036854775807 then ((name_Less.f x0 (x0 ++ (⟨#[97]⟩ : ByteArray))).bind fun t193 => (if t193 = true then ((name_Less.f (x0 ++ (⟨#[97]⟩ : ByteArray)) x0).bind fun t194 => (some (!t194))) else (some false))) else (none)))))))
end
def letterlocklaw1_NameOrder.f (k : Nat) (a0 : ByteArray) (a1 : ByteArray) (a2 : ByteArray) : Option (Bool) := (letterlocklaw1_shown.f).bind fun t181 => (if t181 = true then (letterlocklaw1_NameOrder.j0 k a0 a1 a2 t181 (decide ((wrap64 ((wrap64 ((a0.size : Int) + (a1.size : Int))) + (a2.size : Int))) > 3000))) else (letterlocklaw1_NameOrder.j0 k a0 a1 a2 t181 true))
theorem letterlocklaw1_NameOrder.mono_l : ∀ k, (∀ y0 y1 y2 y3 y4, LeO (letterlocklaw1_NameOrder.j0 k y0 y1 y2 y3 y4) (letterlocklaw1_NameOrder.j0 (k + 1) y0 y1 y2 y3 y4)) ∧ (∀ y0 y1 y2 y3 y4, LeO (letterlocklaw1_NameOrder.j1 k y0 y1 y2 y3 y4) (letterlocklaw1_NameOrder.j1 (k + 1) y0 y1 y2 y3 y4))
  | 0 => ⟨fun _ _ _ _ _ r h => by simp [letterlocklaw1_NameOrder.j0] at h, fun _ _ _ _ _ r h => by simp [letterlocklaw1_NameOrder.j1] at h⟩
  | k + 1 => by
    obtain ⟨ih0, ih1⟩ := letterlocklaw1_NameOrder.mono_l k
    refine ⟨?_, ?_⟩
    · intro y0 y1 y2 y3 y4
      unfold letterlocklaw1_NameOrder.j0
      repeat' first
      | (with_reducible exact ih0 _ _ _ _ _)
      | (with_reducible exact ih1 _ _ _ _ _)
      | (with_reducible exact LeO.refl _)
      | (with_reducible exact LeO.none _)
      | (with_reducible refine LeO.ite ?_ ?_)
      | (with_reducible refine LeO.bind ?_ (fun _ => ?_))
      | exact ih0 _ _ _ _ _
      | exact ih1 _ _ _ _ _
      | exact LeO.none _
      | refine LeO.ite ?_ ?_
      | refine LeO.bind ?_ (fun _ => ?_)
    · intro y0 y1 y2 y3 y4
      unfold letterlocklaw1_NameOrder.j1
      repeat' first
      | (with_reducible exact ih0 _ _ _ _ _)
      | (with_reducible exact ih1 _ _ _ _ _)
      | (with_reducible exact LeO.refl _)
      | (with_reducible exact LeO.none _)
      | (with_reducible refine LeO.ite ?_ ?_)
      | (with_reducible refine LeO.bind ?_ (fun _ => ?_))
      | exact ih0 _ _ _ _ _
      | exact ih1 _ _ _ _ _
      | exact LeO.none _
      | refine LeO.ite ?_ ?_
      | refine LeO.bind ?_ (fun _ => ?_)
theorem letterlocklaw1_NameOrder.mono : ∀ a0 a1 a2 k, LeO (letterlocklaw1_NameOrder.f k a0 a1 a2) (letterlocklaw1_NameOrder.f (k + 1) a0 a1 a2) := by
  intro a0 a1 a2 k
  obtain ⟨ih0, ih1⟩ := letterlocklaw1_NameOrder.mono_l k
  unfold letterlocklaw1_NameOrder.f
  repeat' first
      | (with_reducible exact ih0 _ _ _ _ _)
      | (with_reducible exact ih1 _ _ _ _ _)
      | (with_reducible exact LeO.refl _)
      | (with_reducible exact LeO.none _)
      | (with_reducible refine LeO.ite ?_ ?_)
      | (with_reducible refine LeO.bind ?_ (fun _ => ?_))
      | exact ih0 _ _ _ _ _
      | exact ih1 _ _ _ _ _
      | exact LeO.none _
      | refine LeO.ite ?_ ?_
      | refine LeO.bind ?_ (fun _ => ?_)
set_option maxHeartbeats 8000000 in
set_option maxRecDepth 100000 in
theorem letterlocklaw1_NameOrder.calls (k : Nat) (a0 : ByteArray) (a1 : ByteArray) (a2 : ByteArray) (r : Bool) (w : World) (HTB : Aside0 (Tabs w)) (h : letterlocklaw1_NameOrder.f k a0 a1 a2 = some r) :
    Calls Tryd.prog 3 #[.string a0, .string a1, .string a2] w fun e w' => e = .returned (.bool r) ∧ Below w.heap.size w w' := by
  have HB := Aside0.mk (Below.refl w.heap.size w)
  have H : ((letterlocklaw1_shown.f).bind fun t181 => (if t181 = true then (letterlocklaw1_NameOrder.j0 k a0 a1 a2 t181 (decide ((wrap64 ((wrap64 ((a0.size : Int) + (a1.size : Int))) + (a2.size : Int))) > 3000))) else (letterlocklaw1_NameOrder.j0 k a0 a1 a2 t181 true))) = some r := h
  clear h
  replace H := Option.bind_eq_some_iff.mp H
  obtain ⟨t181, A40, H⟩ := H
  replace H : (if t181 = true then (letterlocklaw1_NameOrder.j0 k a0 a1 a2 t181 (decide ((wrap64 ((wrap64 ((a0.size : Int) + (a1.size : Int))) + (a2.size : Int))) > 3000))) else (letterlocklaw1_NameOrder.j0 k a0 a1 a2 t181 true)) = some r := H
  have A4 := Aside0.mk A40
  clear A40
  have HC5 := Aside0.mk H
  clear H
  go_enter Tryd.func3, Tryd.ntmps3
  go_upto_region 2 with (first | ((with_reducible refine gate_callee (f := 12) rfl ?_); refine goesL_ (some 12) rfl rfl Tryd.func12 (by kernel_rfl) rfl #[] rfl (by (try simp only [List.map_toArray, List.map_cons, List.map_nil]); first | done | rfl | (simp only [List.length_drop, List.length_take]; rfl)) ?_; (with_reducible refine (letterlocklaw1_shown.calls  t181 _ ?side1 A4.out).mono ?_); (case side1 => exact ⟨Tabs.below HTB.out (by repeat (first | (with_reducible first | exact HB.out | apply below_alloc | apply pw_below_drewN | apply below_drew1) | exact HB.out))⟩); rintro e w6 ⟨rfl, hb⟩; refine ⟨_, rfl, ?_⟩; have n0_ := Aside0.mk (below_step (by repeat (first | (with_reducible first | exact HB.out | apply below_alloc | apply pw_below_drewN | apply below_drew1) | exact HB.out)) hb); clear HB; have HB := n0_; clear n0_; (try clear hb); (try clear hb2); (try clear hk); (try clear hi)))
  (try simp only [Act.put, List.setIfInBounds_toArray, List.set_cons_zero, List.set_cons_succ])
  go_cut [25] (fun v25 wc => ∃ (kq : Nat) (x25_4 : Bool), v25 = .bool x25_4 ∧ Aside0 (letterlocklaw1_NameOrder.j0 kq a0 a1 a2 t181 x25_4 = some r) ∧ Aside0 (kq ≤ k) ∧ Aside0 (Below w.heap.size w wc))
  case first =>
    have H := HC5.out
    clear HC5
    by_cases c7 : t181 = true
    · subst c7
      have H1 : (letterlocklaw1_NameOrder.j0 k a0 a1 a2 true (decide ((wrap64 ((wrap64 ((a0.size : Int) + (a1.size : Int))) + (a2.size : Int))) > 3000))) = some r := by rw [if_pos rfl] at H; exact H
      clear H
      have H := H1
      clear H1
      have H' := Aside0.mk H
      clear H
      go_wp2
      go_meet
      case rel => exact ⟨_, (decide ((wrap64 ((wrap64 ((a0.size : Int) + (a1.size : Int))) + (a2.size : Int))) > 3000)), (by first | rfl | (simp; done) | (simp [*]; done)), H', ⟨by first | omega | exact Nat.le_refl _⟩, ⟨by repeat (first | (with_reducible first | exact HB.out | apply below_alloc | apply pw_below_drewN | apply below_drew1) | exact HB.out)⟩⟩
    · replace c7 := Bool.eq_false_iff.mpr c7
      subst c7
      have H1 : (letterlocklaw1_NameOrder.j0 k a0 a1 a2 false true) = some r := by rw [if_neg (show ¬ (false = true) by decide)] at H; exact H
      clear H
      have H := H1
      clear H1
      have H' := Aside0.mk H
      clear H
      go_wp2
      go_meet
      case rel => exact ⟨_, (true), (by first | rfl | (simp; done) | (simp [*]; done)), H', ⟨by first | omega | exact Nat.le_refl _⟩, ⟨by repeat (first | (with_reducible first | exact HB.out | apply below_alloc | apply pw_below_drewN | apply below_drew1) | exact HB.out)⟩⟩
  case rest =>
    clear HC5
    try clear c1
    try clear p2
    try clear c3
    try clear p6
    try clear c7
    obtain ⟨kq, x25_4, rfl, HA, HJ4, HB⟩ := hcut
    cases kq with
    | zero => exact absurd HA.out (by simp [letterlocklaw1_NameOrder.j0])
    | succ kj4 =>
      have H := HA.out
      clear HA
      simp only [letterlocklaw1_NameOrder.j0] at H
      by_cases c8 : x25_4 = true
      · subst c8
        have H1 : (some t181) = some r := by rw [if_pos rfl] at H; exact H
        clear H
        have H := H1
        clear H1
        obtain rfl := Option.some.inj H
        go_wp2
        go_ret
        exact ⟨by first | rfl | (simp [errW_none, errW_some] <;> rfl) | (simp [*, errW_none, errW_some] <;> rfl), by repeat (first | (with_reducible first | exact HB.out | apply below_alloc | apply pw_below_drewN | apply below_drew1) | exact HB.out)⟩
      · replace c8 := Bool.eq_false_iff.mpr c8
        subst c8
        have H1 : ((name_Less.f a0 a1).bind fun t182 => ((name_Less.f a1 a0).bind fun t183 => (if t182 = true then (if t183 = true then (letterlocklaw1_NameOrder.j1 kj4 a0 a1 a2 t182 true) else (letterlocklaw1_NameOrder.j1 kj4 a0 a1 a2 t182 false)) else (letterlocklaw1_NameOrder.j1 kj4 a0 a1 a2 t182 ((!t183) != (a0.toList == a1.toList)))))) = some r := by rw [if_neg (show ¬ (false = true) by decide)] at H; exact H
        clear H
        have H := H1
        clear H1
        replace H := Option.bind_eq_some_iff.mp H
        obtain ⟨t182, A90, H⟩ := H
        replace H : ((name_Less.f a1 a0).bind fun t183 => (if t182 = true then (if t183 = true then (letterlocklaw1_NameOrder.j1 kj4 a0 a1 a2 t182 true) else (letterlocklaw1_NameOrder.j1 kj4 a0 a1 a2 t182 false)) else (letterlocklaw1_NameOrder.j1 kj4 a0 a1 a2 t182 ((!t183) != (a0.toList == a1.toList))))) = some r := H
        have A9 := Aside0.mk A90
        clear A90
        replace H := Option.bind_eq_some_iff.mp H
        obtain ⟨t183, A100, H⟩ := H
        replace H : (if t182 = true then (if t183 = true then (letterlocklaw1_NameOrder.j1 kj4 a0 a1 a2 t182 true) else (letterlocklaw1_NameOrder.j1 kj4 a0 a1 a2 t182 false)) else (letterlocklaw1_NameOrder.j1 kj4 a0 a1 a2 t182 ((!t183) != (a0.toList == a1.toList)))) = some r := H
        have A10 := Aside0.mk A100
        clear A100
        have HC11 := Aside0.mk H
        clear H
        go_upto_region 6 with (first | ((with_reducible refine gate_callee (f := 13) rfl ?_); refine goesL_ (some 29) rfl rfl Tryd.func13 (by kernel_rfl) rfl #[.string a0, .string a1] rfl (by (try simp only [List.map_toArray, List.map_cons, List.map_nil]); first | done | rfl | (simp only [List.length_drop, List.length_take]; rfl)) ?_; (with_reducible refine (name_Less.calls a0 a1 t182 _ A9.out).mono ?_); rintro e w' ⟨rfl, ⟨nd, rfl⟩⟩; refine ⟨_, rfl, ?_⟩) | ((with_reducible refine gate_callee (f := 13) rfl ?_); refine goesL_ (some 32) rfl rfl Tryd.func13 (by kernel_rfl) rfl #[.string a1, .string a0] rfl (by (try simp only [List.map_toArray, List.map_cons, List.map_nil]); first | done | rfl | (simp only [List.length_drop, List.length_take]; rfl)) ?_; (with_reducible refine (name_Less.calls a1 a0 t183 _ A10.out).mono ?_); rintro e w' ⟨rfl, ⟨nd, rfl⟩⟩; refine ⟨_, rfl, ?_⟩))
        (try simp only [Act.put, List.setIfInBounds_toArray, List.set_cons_zero, List.set_cons_succ])
        go_cut [48] (fun v48 wc => ∃ (kq : Nat) (x48_10 : Bool), v48 = .bool x48_10 ∧ Aside0 (letterlocklaw1_NameOrder.j1 kq a0 a1 a2 t182 x48_10 = some r) ∧ Aside0 (kq ≤ kj4) ∧ Aside0 (Below w.heap.size w wc))
        case first =>
          have H := HC11.out
          clear HC11
          by_cases c12 : t182 = true
          · subst c12
            have H1 : (if t183 = true then (letterlocklaw1_NameOrder.j1 kj4 a0 a1 a2 true true) else (letterlocklaw1_NameOrder.j1 kj4 a0 a1 a2 true false)) = some r := by rw [if_pos rfl] at H; exact H
            clear H
            have H := H1
            clear H1
            by_cases c13 : t183 = true
            · subst c13
              have H1 : (letterlocklaw1_NameOrder.j1 kj4 a0 a1 a2 true true) = some r := by rw [if_pos rfl] at H; exact H
              clear H
              have H := H1
              clear H1
              have H' := Aside0.mk H
              clear H
              go_wp2
              go_meet
              case rel => exact ⟨_, (true), (by first | rfl | (simp; done) | (simp [*]; done)), H', ⟨by have := HJ4.out; first | omega | exact Nat.le_refl _⟩, ⟨by repeat (first | (with_reducible first | exact HB.out | apply below_alloc | apply pw_below_drewN | apply below_drew1) | exact HB.out)⟩⟩
            · replace c13 := Bool.eq_false_iff.mpr c13
              subst c13
              have H1 : (letterlocklaw1_NameOrder.j1 kj4 a0 a1 a2 true false) = some r := by rw [if_neg (show ¬ (false = true) by decide)] at H; exact H
              clear H
              have H := H1
              clear H1
              have H' := Aside0.mk H
              clear H
              go_wp2
              go_meet
              case rel => exact ⟨_, (false), (by first | rfl | (simp; done) | (simp [*]; done)), H', ⟨by have := HJ4.out; first | omega | exact Nat.le_refl _⟩, ⟨by repeat (first | (with_reducible first | exact HB.out | apply below_alloc | apply pw_below_drewN | apply below_drew1) | exact HB.out)⟩⟩
          · replace c12 := Bool.eq_false_iff.mpr c12
            subst c12
            have H1 : (letterlocklaw1_NameOrder.j1 kj4 a0 a1 a2 false ((!t183) != (a0.toList == a1.toList))) = some r := by rw [if_neg (show ¬ (false = true) by decide)] at H; exact H
            clear H
            have H := H1
            clear H1
            have H' := Aside0.mk H
            clear H
            go_wp2
            go_meet
            case rel => exact ⟨_, (((!t183) != (a0.toList == a1.toList))), (by first | rfl | (simp; done) | (simp [*]; done)), H', ⟨by have := HJ4.out; first | omega | exact Nat.le_refl _⟩, ⟨by repeat (first | (with_reducible first | exact HB.out | apply below_alloc | apply pw_below_drewN | apply below_drew1) | exact HB.out)⟩⟩
        case rest =>
          clear HC11
          try clear c1
          try clear p2
          try clear c3
          try clear p6
          try clear c7
          try clear c8
          try clear c12
          try clear c13
          try clear p2
          try clear p6
          obtain ⟨kq, x48_10, rfl, HA, HJ10, HB⟩ := hcut
          cases kq with
          | zero => exact absurd HA.out (by simp [letterlocklaw1_NameOrder.j1])
          | succ kj10 =>
            have H := HA.out
            clear HA
            simp only [letterlocklaw1_NameOrder.j1] at H
            by_cases c14 : x48_10 = true
            · subst c14
              have H1 : (some false) = some r := by rw [if_pos rfl] at H; exact H
              clear H
              have H := H1
              clear H1
              obtain rfl := Option.some.inj H
              go_wp2
              go_ret
              exact ⟨by first | rfl | (simp [errW_none, errW_some] <;> rfl) | (simp [*, errW_none, errW_some] <;> rfl), by repeat (first | (with_reducible first | exact HB.out | apply below_alloc | apply pw_below_drewN | apply below_drew1) | exact HB.out)⟩
            · replace c14 := Bool.eq_false_iff.mpr c14
              subst c14
              have H1 : ((name_Less.f a1 a2).bind fun t184 => ((name_Less.f a0 a2).bind fun t185 => (if t182 = true then (if t184 = true then (if t185 = true then ((name_Less.f a0 a0).bind fun t186 => (if t186 = true then (some false) else (if a0.size + 1 ≤ 9223372036854775807 then ((name_Less.f a0 (a0 ++ (⟨#[97]⟩ : ByteArray))).bind fun t187 => (if t187 = true then ((name_Less.f (a0 ++ (⟨#[97]⟩ : ByteArray)) a0).bind fun t188 => (some (!t188))) else (some false))) else (none)))) else (some false)) else ((name_Less.f a0 a0).bind fun t189 => (if t189 = true then (some false) else (if a0.size + 1 ≤ 9223372036854775807 then ((name_Less.f a0 (a0 ++ (⟨#[97]⟩ : ByteArray))).bind fun t190 => (if t190 = true then ((name_Less.f (a0 ++ (⟨#[97]⟩ : ByteArray)) a0).bind fun t191 => (some (!t191))) else (some false))) else (none))))) else ((name_Less.f a0 a0).bind fun t192 => (if t192 = true then (some false) else (if a0.size + 1 ≤ 9223372036854775807 then ((name_Less.f a0 (a0 ++ (⟨#[97]⟩ : ByteArray))).bind fun t193 => (if t193 = true then ((name_Less.f (a0 ++ (⟨#[97]⟩ : ByteArray)) a0).bind fun t194 => (some (!t194))) else (some false))) else (none))))))) = some r := by rw [if_neg (show ¬ (false = true) by decide)] at H; exact H
              clear H
              have H := H1
              clear H1
              replace H := Option.bind_eq_some_iff.mp H
              obtain ⟨t184, A150, H⟩ := H
              replace H : ((name_Less.f a0 a2).bind fun t185 => (if t182 = true then (if t184 = true then (if t185 = true then ((name_Less.f a0 a0).bind fun t186 => (if t186 = true then (some false) else (if a0.size + 1 ≤ 9223372036854775807 then ((name_Less.f a0 (a0 ++ (⟨#[97]⟩ : ByteArray))).bind fun t187 => (if t187 = true then ((name_Less.f (a0 ++ (⟨#[97]⟩ : ByteArray)) a0).bind fun t188 => (some (!t188))) else (some false))) else (none)))) else (some false)) else ((name_Less.f a0 a0).bind fun t189 => (if t189 = true then (some false) else (if a0.size + 1 ≤ 9223372036854775807 then ((name_Less.f a0 (a0 ++ (⟨#[97]⟩ : ByteArray))).bind fun t190 => (if t190 = true then ((name_Less.f (a0 ++ (⟨#[97]⟩ : ByteArray)) a0).bind fun t191 => (some (!t191))) else (some false))) else (none))))) else ((name_Less.f a0 a0).bind fun t192 => (if t192 = true then (some false) else (if a0.size + 1 ≤ 9223372036854775807 then ((name_Less.f a0 (a0 ++ (⟨#[97]⟩ : ByteArray))).bind fun t193 => (if t193 = true then ((name_Less.f (a0 ++ (⟨#[97]⟩ : ByteArray)) a0).bind fun t194 => (some (!t194))) else (some false))) else (none)))))) = some r := H
              have A15 := Aside0.mk A150
              clear A150
              replace H := Option.bind_eq_some_iff.mp H
              obtain ⟨t185, A160, H⟩ := H
              replace H : (if t182 = true then (if t184 = true then (if t185 = true then ((name_Less.f a0 a0).bind fun t186 => (if t186 = true then (some false) else (if a0.size + 1 ≤ 9223372036854775807 then ((name_Less.f a0 (a0 ++ (⟨#[97]⟩ : ByteArray))).bind fun t187 => (if t187 = true then ((name_Less.f (a0 ++ (⟨#[97]⟩ : ByteArray)) a0).bind fun t188 => (some (!t188))) else (some false))) else (none)))) else (some false)) else ((name_Less.f a0 a0).bind fun t189 => (if t189 = true then (some false) else (if a0.size + 1 ≤ 9223372036854775807 then ((name_Less.f a0 (a0 ++ (⟨#[97]⟩ : ByteArray))).bind fun t190 => (if t190 = true then ((name_Less.f (a0 ++ (⟨#[97]⟩ : ByteArray)) a0).bind fun t191 => (some (!t191))) else (some false))) else (none))))) else ((name_Less.f a0 a0).bind fun t192 => (if t192 = true then (some false) else (if a0.size + 1 ≤ 9223372036854775807 then ((name_Less.f a0 (a0 ++ (⟨#[97]⟩ : ByteArray))).bind fun t193 => (if t193 = true then ((name_Less.f (a0 ++ (⟨#[97]⟩ : ByteArray)) a0).bind fun t194 => (some (!t194))) else (some false))) else (none))))) = some r := H
              have A16 := Aside0.mk A160
              clear A160
              by_cases c17 : t182 = true
              · subst c17
                have H1 : (if t184 = true then (if t185 = true then ((name_Less.f a0 a0).bind fun t186 => (if t186 = true then (some false) else (if a0.size + 1 ≤ 9223372036854775807 then ((name_Less.f a0 (a0 ++ (⟨#[97]⟩ : ByteArray))).bind fun t187 => (if t187 = true then ((name_Less.f (a0 ++ (⟨#[97]⟩ : ByteArray)) a0).bind fun t188 => (some (!t188))) else (some false))) else (none)))) else (some false)) else ((name_Less.f a0 a0).bind fun t189 => (if t189 = true then (some false) else (if a0.size + 1 ≤ 9223372036854775807 then ((name_Less.f a0 (a0 ++ (⟨#[97]⟩ : ByteArray))).bind fun t190 => (if t190 = true then ((name_Less.f (a0 ++ (⟨#[97]⟩ : ByteArray)) a0).bind fun t191 => (some (!t191))) else (some false))) else (none))))) = some r := by rw [if_pos rfl] at H; exact H
                clear H
                have H := H1
                clear H1
                by_cases c18 : t184 = true
                · subst c18
                  have H1 : (if t185 = true then ((name_Less.f a0 a0).bind fun t186 => (if t186 = true then (some false) else (if a0.size + 1 ≤ 9223372036854775807 then ((name_Less.f a0 (a0 ++ (⟨#[97]⟩ : ByteArray))).bind fun t187 => (if t187 = true then ((name_Less.f (a0 ++ (⟨#[97]⟩ : ByteArray)) a0).bind fun t188 => (some (!t188))) else (some false))) else (none)))) else (some false)) = some r := by rw [if_pos rfl] at H; exact H
                  clear H
                  have H := H1
                  clear H1
                  by_cases c19 : t185 = true
                  · subst c19
                    have H1 : ((name_Less.f a0 a0).bind fun t186 => (if t186 = true then (some false) else (if a0.size + 1 ≤ 9223372036854775807 then ((name_Less.f a0 (a0 ++ (⟨#[97]⟩ : ByteArray))).bind fun t187 => (if t187 = true then ((name_Less.f (a0 ++ (⟨#[97]⟩ : ByteArray)) a0).bind fun t188 => (some (!t188))) else (some false))) else (none)))) = some r := by rw [if_pos rfl] at H; exact H
                    clear H
                    have H := H1
                    clear H1
                    replace H := Option.bind_eq_some_iff.mp H
                    obtain ⟨t186, A200, H⟩ := H
                    replace H : (if t186 = true then (some false) else (if a0.size + 1 ≤ 9223372036854775807 then ((name_Less.f a0 (a0 ++ (⟨#[97]⟩ : ByteArray))).bind fun t187 => (if t187 = true then ((name_Less.f (a0 ++ (⟨#[97]⟩ : ByteArray)) a0).bind fun t188 => (some (!t188))) else (some false))) else (none))) = some r := H
                    have A20 := Aside0.mk A200
                    clear A200
                    by_cases c21 : t186 = true
                    · subst c21
                      have H1 : (some false) = some r := by rw [if_pos rfl] at H; exact H
                      clear H
                      have H := H1
                      clear H1
                      obtain rfl := Option.some.inj H
                      go_wp2_with (first | ((with_reducible refine gate_callee (f := 13) rfl ?_); refine goesL_ (some 51) rfl rfl Tryd.func13 (by kernel_rfl) rfl #[.string a1, .string a2] rfl (by (try simp only [List.map_toArray, List.map_cons, List.map_nil]); first | done | rfl | (simp only [List.length_drop, List.length_take]; rfl)) ?_; (with_reducible refine (name_Less.calls a1 a2 true _ A15.out).mono ?_); rintro e w' ⟨rfl, ⟨nd, rfl⟩⟩; refine ⟨_, rfl, ?_⟩) | ((with_reducible refine gate_callee (f := 13) rfl ?_); refine goesL_ (some 54) rfl rfl Tryd.func13 (by kernel_rfl) rfl #[.string a0, .string a2] rfl (by (try simp only [List.map_toArray, List.map_cons, List.map_nil]); first | done | rfl | (simp only [List.length_drop, List.length_take]; rfl)) ?_; (with_reducible refine (name_Less.calls a0 a2 true _ A16.out).mono ?_); rintro e w' ⟨rfl, ⟨nd, rfl⟩⟩; refine ⟨_, rfl, ?_⟩) | (go_at_call 13; (with_reducible refine (name_Less.calls a0 a0 true _ A20.out).mono ?_); rintro e w' ⟨rfl, ⟨nd, rfl⟩⟩))
                      go_ret
                      exact ⟨by first | rfl | (simp [errW_none, errW_some] <;> rfl) | (simp [*, errW_none, errW_some] <;> rfl), by repeat (first | (with_reducible first | exact HB.out | apply below_alloc | apply pw_below_drewN | apply below_drew1) | exact HB.out)⟩
                    · replace c21 := Bool.eq_false_iff.mpr c21
                      subst c21
                      have H1 : (if a0.size + 1 ≤ 9223372036854775807 then ((name_Less.f a0 (a0 ++ (⟨#[97]⟩ : ByteArray))).bind fun t187 => (if t187 = true then ((name_Less.f (a0 ++ (⟨#[97]⟩ : ByteArray)) a0).bind fun t188 => (some (!t188))) else (some false))) else (none)) = some r := by rw [if_neg (show ¬ (false = true) by decide)] at H; exact H
                      clear H
                      have H := H1
                      clear H1
                      by_cases c22 : a0.size + 1 ≤ 9223372036854775807
                      · rw [if_pos c22] at H
                        have c22b0 := eq_true c22
                        have c22b1 : decide (a0.size + 1 ≤ 9223372036854775807) = true := decide_eq_true c22
                        try have c22b2 : (9223372036854775807 < a0.size + 1) = False := eq_false (Nat.not_lt.2 c22)
                        replace H := Option.bind_eq_some_iff.mp H
                        obtain ⟨t187, A230, H⟩ := H
                        replace H : (if t187 = true then ((name_Less.f (a0 ++ (⟨#[97]⟩ : ByteArray)) a0).bind fun t188 => (some (!t188))) else (some false)) = some r := H
                        have A23 := Aside0.mk A230
                        clear A230
                        by_cases c24 : t187 = true
                        · subst c24
                          have H1 : ((name_Less.f (a0 ++ (⟨#[97]⟩ : ByteArray)) a0).bind fun t188 => (some (!t188))) = some r := by rw [if_pos rfl] at H; exact H
                          clear H
                          have H := H1
                          clear H1
                          replace H := Option.bind_eq_some_iff.mp H
                          obtain ⟨t188, A250, H⟩ := H
                          replace H : (some (!t188)) = some r := H
                          have A25 := Aside0.mk A250
                          clear A250
                          obtain rfl := Option.some.inj H
                          go_wp2_with (first | ((with_reducible refine gate_callee (f := 13) rfl ?_); refine goesL_ (some 51) rfl rfl Tryd.func13 (by kernel_rfl) rfl #[.string a1, .string a2] rfl (by (try simp only [List.map_toArray, List.map_cons, List.map_nil]); first | done | rfl | (simp only [List.length_drop, List.length_take]; rfl)) ?_; (with_reducible refine (name_Less.calls a1 a2 true _ A15.out).mono ?_); rintro e w' ⟨rfl, ⟨nd, rfl⟩⟩; refine ⟨_, rfl, ?_⟩) | ((with_reducible refine gate_callee (f := 13) rfl ?_); refine goesL_ (some 54) rfl rfl Tryd.func13 (by kernel_rfl) rfl #[.string a0, .string a2] rfl (by (try simp only [List.map_toArray, List.map_cons, List.map_nil]); first | done | rfl | (simp only [List.length_drop, List.length_take]; rfl)) ?_; (with_reducible refine (name_Less.calls a0 a2 true _ A16.out).mono ?_); rintro e w' ⟨rfl, ⟨nd, rfl⟩⟩; refine ⟨_, rfl, ?_⟩) | (go_at_call 13; (with_reducible refine (name_Less.calls a0 a0 false _ A20.out).mono ?_); rintro e w' ⟨rfl, ⟨nd, rfl⟩⟩) | (go_at_call 13; (with_reducible refine (name_Less.calls a0 (a0 ++ (⟨#[97]⟩ : ByteArray)) true _ A23.out).mono ?_); rintro e w' ⟨rfl, ⟨nd, rfl⟩⟩) | (go_at_call 13; (with_reducible refine (name_Less.calls (a0 ++ (⟨#[97]⟩ : ByteArray)) a0 t188 _ A25.out).mono ?_); rintro e w' ⟨rfl, ⟨nd, rfl⟩⟩))
                          go_ret
                          exact ⟨by first | rfl | (simp [errW_none, errW_some] <;> rfl) | (simp [*, errW_none, errW_some] <;> rfl), by repeat (first | (with_reducible first | exact HB.out | apply below_alloc | apply pw_below_drewN | apply below_drew1) | exact HB.out)⟩
                        · replace c24 := Bool.eq_false_iff.mpr c24
                          subst c24
                          have H1 : (some false) = some r := by rw [if_neg (show ¬ (false = true) by decide)] at H; exact H
                          clear H
                          have H := H1
                          clear H1
                          obtain rfl := Option.some.inj H
                          go_wp2_with (first | ((with_reducible refine gate_callee (f := 13) rfl ?_); refine goesL_ (some 51) rfl rfl Tryd.func13 (by kernel_rfl) rfl #[.string a1, .string a2] rfl (by (try simp only [List.map_toArray, List.map_cons, List.map_nil]); first | done | rfl | (simp only [List.length_drop, List.length_take]; rfl)) ?_; (with_reducible refine (name_Less.calls a1 a2 true _ A15.out).mono ?_); rintro e w' ⟨rfl, ⟨nd, rfl⟩⟩; refine ⟨_, rfl, ?_⟩) | ((with_reducible refine gate_callee (f := 13) rfl ?_); refine goesL_ (some 54) rfl rfl Tryd.func13 (by kernel_rfl) rfl #[.string a0, .string a2] rfl (by (try simp only [List.map_toArray, List.map_cons, List.map_nil]); first | done | rfl | (simp only [List.length_drop, List.length_take]; rfl)) ?_; (with_reducible refine (name_Less.calls a0 a2 true _ A16.out).mono ?_); rintro e w' ⟨rfl, ⟨nd, rfl⟩⟩; refine ⟨_, rfl, ?_⟩) | (go_at_call 13; (with_reducible refine (name_Less.calls a0 a0 false _ A20.out).mono ?_); rintro e w' ⟨rfl, ⟨nd, rfl⟩⟩) | (go_at_call 13; (with_reducible refine (name_Less.calls a0 (a0 ++ (⟨#[97]⟩ : ByteArray)) false _ A23.out).mono ?_); rintro e w' ⟨rfl, ⟨nd, rfl⟩⟩))
                          go_ret
                          exact ⟨by first | rfl | (simp [errW_none, errW_some] <;> rfl) | (simp [*, errW_none, errW_some] <;> rfl), by repeat (first | (with_reducible first | exact HB.out | apply below_alloc | apply pw_below_drewN | apply below_drew1) | exact HB.out)⟩
                      · rw [if_neg c22] at H
                        exact absurd H (by simp)
                  · replace c19 := Bool.eq_false_iff.mpr c19
                    subst c19
                    have H1 : (some false) = some r := by rw [if_neg (show ¬ (false = true) by decide)] at H; exact H
                    clear H
                    have H := H1
                    clear H1
                    obtain rfl := Option.some.inj H
                    go_wp2_with (first | ((with_reducible refine gate_callee (f := 13) rfl ?_); refine goesL_ (some 51) rfl rfl Tryd.func13 (by kernel_rfl) rfl #[.string a1, .string a2] rfl (by (try simp only [List.map_toArray, List.map_cons, List.map_nil]); first | done | rfl | (simp only [List.length_drop, List.length_take]; rfl)) ?_; (with_reducible refine (name_Less.calls a1 a2 true _ A15.out).mono ?_); rintro e w' ⟨rfl, ⟨nd, rfl⟩⟩; refine ⟨_, rfl, ?_⟩) | ((with_reducible refine gate_callee (f := 13) rfl ?_); refine goesL_ (some 54) rfl rfl Tryd.func13 (by kernel_rfl) rfl #[.string a0, .string a2] rfl (by (try simp only [List.map_toArray, List.map_cons, List.map_nil]); first | done | rfl | (simp only [List.length_drop, List.length_take]; rfl)) ?_; (with_reducible refine (name_Less.calls a0 a2 false _ A16.out).mono ?_); rintro e w' ⟨rfl, ⟨nd, rfl⟩⟩; refine ⟨_, rfl, ?_⟩))
                    go_ret
                    exact ⟨by first | rfl | (simp [errW_none, errW_some] <;> rfl) | (simp [*, errW_none, errW_some] <;> rfl), by repeat (first | (with_reducible first | exact HB.out | apply below_alloc | apply pw_below_drewN | apply below_drew1) | exact HB.out)⟩
                · replace c18 := Bool.eq_false_iff.mpr c18
                  subst c18
                  have H1 : ((name_Less.f a0 a0).bind fun t189 => (if t189 = true then (some false) else (if a0.size + 1 ≤ 9223372036854775807 then ((name_Less.f a0 (a0 ++ (⟨#[97]⟩ : ByteArray))).bind fun t190 => (if t190 = true then ((name_Less.f (a0 ++ (⟨#[97]⟩ : ByteArray)) a0).bind fun t191 => (some (!t191))) else (some false))) else (none)))) = some r := by rw [if_neg (show ¬ (false = true) by decide)] at H; exact H
                  clear H
                  have H := H1
                  clear H1
                  replace H := Option.bind_eq_some_iff.mp H
                  obtain ⟨t189, A260, H⟩ := H
                  replace H : (if t189 = true then (some false) else (if a0.size + 1 ≤ 9223372036854775807 then ((name_Less.f a0 (a0 ++ (⟨#[97]⟩ : ByteArray))).bind fun t190 => (if t190 = true then ((name_Less.f (a0 ++ (⟨#[97]⟩ : ByteArray)) a0).bind fun t191 => (some (!t191))) else (some false))) else (none))) = some r := H
                  have A26 := Aside0.mk A260
                  clear A260
                  by_cases c27 : t189 = true
                  · subst c27
                    have H1 : (some false) = some r := by rw [if_pos rfl] at H; exact H
                    clear H
                    have H := H1
                    clear H1
                    obtain rfl := Option.some.inj H
                    go_wp2_with (first | ((with_reducible refine gate_callee (f := 13) rfl ?_); refine goesL_ (some 51) rfl rfl Tryd.func13 (by kernel_rfl) rfl #[.string a1, .string a2] rfl (by (try simp only [List.map_toArray, List.map_cons, List.map_nil]); first | done | rfl | (simp only [List.length_drop, List.length_take]; rfl)) ?_; (with_reducible refine (name_Less.calls a1 a2 false _ A15.out).mono ?_); rintro e w' ⟨rfl, ⟨nd, rfl⟩⟩; refine ⟨_, rfl, ?_⟩) | ((with_reducible refine gate_callee (f := 13) rfl ?_); refine goesL_ (some 54) rfl rfl Tryd.func13 (by kernel_rfl) rfl #[.string a0, .string a2] rfl (by (try simp only [List.map_toArray, List.map_cons, List.map_nil]); first | done | rfl | (simp only [List.length_drop, List.length_take]; rfl)) ?_; (with_reducible refine (name_Less.calls a0 a2 t185 _ A16.out).mono ?_); rintro e w' ⟨rfl, ⟨nd, rfl⟩⟩; refine ⟨_, rfl, ?_⟩) | (go_at_call 13; (with_reducible refine (name_Less.calls a0 a0 true _ A26.out).mono ?_); rintro e w' ⟨rfl, ⟨nd, rfl⟩⟩))
                    go_ret
                    exact ⟨by first | rfl | (simp [errW_none, errW_some] <;> rfl) | (simp [*, errW_none, errW_some] <;> rfl), by repeat (first | (with_reducible first | exact HB.out | apply below_alloc | apply pw_below_drewN | apply below_drew1) | exact HB.out)⟩
                  · replace c27 := Bool.eq_false_iff.mpr c27
                    subst c27
                    have H1 : (if a0.size + 1 ≤ 9223372036854775807 then ((name_Less.f a0 (a0 ++ (⟨#[97]⟩ : ByteArray))).bind fun t190 => (if t190 = true then ((name_Less.f (a0 ++ (⟨#[97]⟩ : ByteArray)) a0).bind fun t191 => (some (!t191))) else (some false))) else (none)) = some r := by rw [if_neg (show ¬ (false = true) by decide)] at H; exact H
                    clear H
                    have H := H1
                    clear H1
                    by_cases c28 : a0.size + 1 ≤ 9223372036854775807
                    · rw [if_pos c28] at H
                      have c28b0 := eq_true c28
                      have c28b1 : decide (a0.size + 1 ≤ 9223372036854775807) = true := decide_eq_true c28
                      try have c28b2 : (9223372036854775807 < a0.size + 1) = False := eq_false (Nat.not_lt.2 c28)
                      replace H := Option.bind_eq_some_iff.mp H
                      obtain ⟨t190, A290, H⟩ := H
                      replace H : (if t190 = true then ((name_Less.f (a0 ++ (⟨#[97]⟩ : ByteArray)) a0).bind fun t191 => (some (!t191))) else (some false)) = some r := H
                      have A29 := Aside0.mk A290
                      clear A290
                      by_cases c30 : t190 = true
                      · subst c30
                        have H1 : ((name_Less.f (a0 ++ (⟨#[97]⟩ : ByteArray)) a0).bind fun t191 => (some (!t191))) = some r := by rw [if_pos rfl] at H; exact H
                        clear H
                        have H := H1
                        clear H1
                        replace H := Option.bind_eq_some_iff.mp H
                        obtain ⟨t191, A310, H⟩ := H
                        replace H : (some (!t191)) = some r := H
                        have A31 := Aside0.mk A310
                        clear A310
                        obtain rfl := Option.some.inj H
                        go_wp2_with (first | ((with_reducible refine gate_callee (f := 13) rfl ?_); refine goesL_ (some 51) rfl rfl Tryd.func13 (by kernel_rfl) rfl #[.string a1, .string a2] rfl (by (try simp only [List.map_toArray, List.map_cons, List.map_nil]); first | done | rfl | (simp only [List.length_drop, List.length_take]; rfl)) ?_; (with_reducible refine (name_Less.calls a1 a2 false _ A15.out).mono ?_); rintro e w' ⟨rfl, ⟨nd, rfl⟩⟩; refine ⟨_, rfl, ?_⟩) | ((with_reducible refine gate_callee (f := 13) rfl ?_); refine goesL_ (some 54) rfl rfl Tryd.func13 (by kernel_rfl) rfl #[.string a0, .string a2] rfl (by (try simp only [List.map_toArray, List.map_cons, List.map_nil]); first | done | rfl | (simp only [List.length_drop, List.length_take]; rfl)) ?_; (with_reducible refine (name_Less.calls a0 a2 t185 _ A16.out).mono ?_); rintro e w' ⟨rfl, ⟨nd, rfl⟩⟩; refine ⟨_, rfl, ?_⟩) | (go_at_call 13; (with_reducible refine (name_Less.calls a0 a0 false _ A26.out).mono ?_); rintro e w' ⟨rfl, ⟨nd, rfl⟩⟩) | (go_at_call 13; (with_reducible refine (name_Less.calls a0 (a0 ++ (⟨#[97]⟩ : ByteArray)) true _ A29.out).mono ?_); rintro e w' ⟨rfl, ⟨nd, rfl⟩⟩) | (go_at_call 13; (with_reducible refine (name_Less.calls (a0 ++ (⟨#[97]⟩ : ByteArray)) a0 t191 _ A31.out).mono ?_); rintro e w' ⟨rfl, ⟨nd, rfl⟩⟩))
                        go_ret
                        exact ⟨by first | rfl | (simp [errW_none, errW_some] <;> rfl) | (simp [*, errW_none, errW_some] <;> rfl), by repeat (first | (with_reducible first | exact HB.out | apply below_alloc | apply pw_below_drewN | apply below_drew1) | exact HB.out)⟩
                      · replace c30 := Bool.eq_false_iff.mpr c30
                        subst c30
                        have H1 : (some false) = some r := by rw [if_neg (show ¬ (false = true) by decide)] at H; exact H
                        clear H
                        have H := H1
                        clear H1
                        obtain rfl := Option.some.inj H
                        go_wp2_with (first | ((with_reducible refine gate_callee (f := 13) rfl ?_); refine goesL_ (some 51) rfl rfl Tryd.func13 (by kernel_rfl) rfl #[.string a1, .string a2] rfl (by (try simp only [List.map_toArray, List.map_cons, List.map_nil]); first | done | rfl | (simp only [List.length_drop, List.length_take]; rfl)) ?_; (with_reducible refine (name_Less.calls a1 a2 false _ A15.out).mono ?_); rintro e w' ⟨rfl, ⟨nd, rfl⟩⟩; refine ⟨_, rfl, ?_⟩) | ((with_reducible refine gate_callee (f := 13) rfl ?_); refine goesL_ (some 54) rfl rfl Tryd.func13 (by kernel_rfl) rfl #[.string a0, .string a2] rfl (by (try simp only [List.map_toArray, List.map_cons, List.map_nil]); first | done | rfl | (simp only [List.length_drop, List.length_take]; rfl)) ?_; (with_reducible refine (name_Less.calls a0 a2 t185 _ A16.out).mono ?_); rintro e w' ⟨rfl, ⟨nd, rfl⟩⟩; refine ⟨_, rfl, ?_⟩) | (go_at_call 13; (with_reducible refine (name_Less.calls a0 a0 false _ A26.out).mono ?_); rintro e w' ⟨rfl, ⟨nd, rfl⟩⟩) | (go_at_call 13; (with_reducible refine (name_Less.calls a0 (a0 ++ (⟨#[97]⟩ : ByteArray)) false _ A29.out).mono ?_); rintro e w' ⟨rfl, ⟨nd, rfl⟩⟩))
                        go_ret
                        exact ⟨by first | rfl | (simp [errW_none, errW_some] <;> rfl) | (simp [*, errW_none, errW_some] <;> rfl), by repeat (first | (with_reducible first | exact HB.out | apply below_alloc | apply pw_below_drewN | apply below_drew1) | exact HB.out)⟩
                    · rw [if_neg c28] at H
                      exact absurd H (by simp)
              · replace c17 := Bool.eq_false_iff.mpr c17
                subst c17
                have H1 : ((name_Less.f a0 a0).bind fun t192 => (if t192 = true then (some false) else (if a0.size + 1 ≤ 9223372036854775807 then ((name_Less.f a0 (a0 ++ (⟨#[97]⟩ : ByteArray))).bind fun t193 => (if t193 = true then ((name_Less.f (a0 ++ (⟨#[97]⟩ : ByteArray)) a0).bind fun t194 => (some (!t194))) else (some false))) else (none)))) = some r := by rw [if_neg (show ¬ (false = true) by decide)] at H; exact H
                clear H
                have H := H1
                clear H1
                replace H := Option.bind_eq_some_iff.mp H
                obtain ⟨t192, A320, H⟩ := H
                replace H : (if t192 = true then (some false) else (if a0.size + 1 ≤ 9223372036854775807 then ((name_Less.f a0 (a0 ++ (⟨#[97]⟩ : ByteArray))).bind fun t193 => (if t193 = true then ((name_Less.f (a0 ++ (⟨#[97]⟩ : ByteArray)) a0).bind fun t194 => (some (!t194))) else (some false))) else (none))) = some r := H
                have A32 := Aside0.mk A320
                clear A320
                by_cases c33 : t192 = true
                · subst c33
                  have H1 : (some false) = some r := by rw [if_pos rfl] at H; exact H
                  clear H
                  have H := H1
                  clear H1
                  obtain rfl := Option.some.inj H
                  go_wp2_with (first | ((with_reducible refine gate_callee (f := 13) rfl ?_); refine goesL_ (some 51) rfl rfl Tryd.func13 (by kernel_rfl) rfl #[.string a1, .string a2] rfl (by (try simp only [List.map_toArray, List.map_cons, List.map_nil]); first | done | rfl | (simp only [List.length_drop, List.length_take]; rfl)) ?_; (with_reducible refine (name_Less.calls a1 a2 t184 _ A15.out).mono ?_); rintro e w' ⟨rfl, ⟨nd, rfl⟩⟩; refine ⟨_, rfl, ?_⟩) | ((with_reducible refine gate_callee (f := 13) rfl ?_); refine goesL_ (some 54) rfl rfl Tryd.func13 (by kernel_rfl) rfl #[.string a0, .string a2] rfl (by (try simp only [List.map_toArray, List.map_cons, List.map_nil]); first | done | rfl | (simp only [List.length_drop, List.length_take]; rfl)) ?_; (with_reducible refine (name_Less.calls a0 a2 t185 _ A16.out).mono ?_); rintro e w' ⟨rfl, ⟨nd, rfl⟩⟩; refine ⟨_, rfl, ?_⟩) | (go_at_call 13; (with_reducible refine (name_Less.calls a0 a0 true _ A32.out).mono ?_); rintro e w' ⟨rfl, ⟨nd, rfl⟩⟩))
                  go_ret
                  exact ⟨by first | rfl | (simp [errW_none, errW_some] <;> rfl) | (simp [*, errW_none, errW_some] <;> rfl), by repeat (first | (with_reducible first | exact HB.out | apply below_alloc | apply pw_below_drewN | apply below_drew1) | exact HB.out)⟩
                · replace c33 := Bool.eq_false_iff.mpr c33
                  subst c33
                  have H1 : (if a0.size + 1 ≤ 9223372036854775807 then ((name_Less.f a0 (a0 ++ (⟨#[97]⟩ : ByteArray))).bind fun t193 => (if t193 = true then ((name_Less.f (a0 ++ (⟨#[97]⟩ : ByteArray)) a0).bind fun t194 => (some (!t194))) else (some false))) else (none)) = some r := by rw [if_neg (show ¬ (false = true) by decide)] at H; exact H
                  clear H
                  have H := H1
                  clear H1
                  by_cases c34 : a0.size + 1 ≤ 9223372036854775807
                  · rw [if_pos c34] at H
                    have c34b0 := eq_true c34
                    have c34b1 : decide (a0.size + 1 ≤ 9223372036854775807) = true := decide_eq_true c34
                    try have c34b2 : (9223372036854775807 < a0.size + 1) = False := eq_false (Nat.not_lt.2 c34)
                    replace H := Option.bind_eq_some_iff.mp H
                    obtain ⟨t193, A350, H⟩ := H
                    replace H : (if t193 = true then ((name_Less.f (a0 ++ (⟨#[97]⟩ : ByteArray)) a0).bind fun t194 => (some (!t194))) else (some false)) = some r := H
                    have A35 := Aside0.mk A350
                    clear A350
                    by_cases c36 : t193 = true
                    · subst c36
                      have H1 : ((name_Less.f (a0 ++ (⟨#[97]⟩ : ByteArray)) a0).bind fun t194 => (some (!t194))) = some r := by rw [if_pos rfl] at H; exact H
                      clear H
                      have H := H1
                      clear H1
                      replace H := Option.bind_eq_some_iff.mp H
                      obtain ⟨t194, A370, H⟩ := H
                      replace H : (some (!t194)) = some r := H
                      have A37 := Aside0.mk A370
                      clear A370
                      obtain rfl := Option.some.inj H
                      go_wp2_with (first | ((with_reducible refine gate_callee (f := 13) rfl ?_); refine goesL_ (some 51) rfl rfl Tryd.func13 (by kernel_rfl) rfl #[.string a1, .string a2] rfl (by (try simp only [List.map_toArray, List.map_cons, List.map_nil]); first | done | rfl | (simp only [List.length_drop, List.length_take]; rfl)) ?_; (with_reducible refine (name_Less.calls a1 a2 t184 _ A15.out).mono ?_); rintro e w' ⟨rfl, ⟨nd, rfl⟩⟩; refine ⟨_, rfl, ?_⟩) | ((with_reducible refine gate_callee (f := 13) rfl ?_); refine goesL_ (some 54) rfl rfl Tryd.func13 (by kernel_rfl) rfl #[.string a0, .string a2] rfl (by (try simp only [List.map_toArray, List.map_cons, List.map_nil]); first | done | rfl | (simp only [List.length_drop, List.length_take]; rfl)) ?_; (with_reducible refine (name_Less.calls a0 a2 t185 _ A16.out).mono ?_); rintro e w' ⟨rfl, ⟨nd, rfl⟩⟩; refine ⟨_, rfl, ?_⟩) | (go_at_call 13; (with_reducible refine (name_Less.calls a0 a0 false _ A32.out).mono ?_); rintro e w' ⟨rfl, ⟨nd, rfl⟩⟩) | (go_at_call 13; (with_reducible refine (name_Less.calls a0 (a0 ++ (⟨#[97]⟩ : ByteArray)) true _ A35.out).mono ?_); rintro e w' ⟨rfl, ⟨nd, rfl⟩⟩) | (go_at_call 13; (with_reducible refine (name_Less.calls (a0 ++ (⟨#[97]⟩ : ByteArray)) a0 t194 _ A37.out).mono ?_); rintro e w' ⟨rfl, ⟨nd, rfl⟩⟩))
                      go_ret
                      exact ⟨by first | rfl | (simp [errW_none, errW_some] <;> rfl) | (simp [*, errW_none, errW_some] <;> rfl), by repeat (first | (with_reducible first | exact HB.out | apply below_alloc | apply pw_below_drewN | apply below_drew1) | exact HB.out)⟩
                    · replace c36 := Bool.eq_false_iff.mpr c36
                      subst c36
                      have H1 : (some false) = some r := by rw [if_neg (show ¬ (false = true) by decide)] at H; exact H
                      clear H
                      have H := H1
                      clear H1
                      obtain rfl := Option.some.inj H
                      go_wp2_with (first | ((with_reducible refine gate_callee (f := 13) rfl ?_); refine goesL_ (some 51) rfl rfl Tryd.func13 (by kernel_rfl) rfl #[.string a1, .string a2] rfl (by (try simp only [List.map_toArray, List.map_cons, List.map_nil]); first | done | rfl | (simp only [List.length_drop, List.length_take]; rfl)) ?_; (with_reducible refine (name_Less.calls a1 a2 t184 _ A15.out).mono ?_); rintro e w' ⟨rfl, ⟨nd, rfl⟩⟩; refine ⟨_, rfl, ?_⟩) | ((with_reducible refine gate_callee (f := 13) rfl ?_); refine goesL_ (some 54) rfl rfl Tryd.func13 (by kernel_rfl) rfl #[.string a0, .string a2] rfl (by (try simp only [List.map_toArray, List.map_cons, List.map_nil]); first | done | rfl | (simp only [List.length_drop, List.length_take]; rfl)) ?_; (with_reducible refine (name_Less.calls a0 a2 t185 _ A16.out).mono ?_); rintro e w' ⟨rfl, ⟨nd, rfl⟩⟩; refine ⟨_, rfl, ?_⟩) | (go_at_call 13; (with_reducible refine (name_Less.calls a0 a0 false _ A32.out).mono ?_); rintro e w' ⟨rfl, ⟨nd, rfl⟩⟩) | (go_at_call 13; (with_reducible refine (name_Less.calls a0 (a0 ++ (⟨#[97]⟩ : ByteArray)) false _ A35.out).mono ?_); rintro e w' ⟨rfl, ⟨nd, rfl⟩⟩))
                      go_ret
                      exact ⟨by first | rfl | (simp [errW_none, errW_some] <;> rfl) | (simp [*, errW_none, errW_some] <;> rfl), by repeat (first | (with_reducible first | exact HB.out | apply below_alloc | apply pw_below_drewN | apply below_drew1) | exact HB.out)⟩
                  · rw [if_neg c34] at H
                    exact absurd H (by simp)

-- a stub: function 17 (name_Runes)

end Go.Proofs.YtngdpoghfacokaaDoor.PA
