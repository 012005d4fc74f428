-- printed by a program of this session (a copy of print.py that takes stubs) out of the translation; Lean checks it
import Derived.Test.YtnieihhnchefdaaPAx0
import Derived.Test.YtnieihhnchefdaaPAx6
namespace Go.Proofs.Ytnieihhnchefdaa.PA
open Go.RowKit Go.Proofs.YtnieihhnchefdaaW.PrintWords Go.Proofs.YtnieihhnchefdaaW.PrintLast Go.Proofs.YtnieihhnchefdaaW.PrintMore
attribute [local go_sem] max2_int min2_int max_two min_two max_three min_three max_four min_four   -- for this text's walks alone
set_option linter.unusedVariables false
set_option linter.unusedSimpArgs false

/-! ### letterlocklaw6_RegressKeys: function 12 -/
mutual
def letterlocklaw6_RegressKeys.j0 : Nat → Int → Int → ByteArray → Bool → Option (Bool)
  | 0, _, _, _, _ => none
  | k + 1, x1, x2, x8, x35 => if x35 = true then (some false) else ((letterlocklaw6_pick.f x1 8).bind fun t329 => ((letterlocklaw6_pick.f x2 8).bind fun t330 => ((regress_State.f k x8 t329).bind fun bt331 => ((regress_State.f k x8 t330).bind fun bt333 => ((regress_Key.f k bt331.1).bind fun bt335 => ((regress_Key.f k bt333.1).bind fun bt337 => (if bt331.2 = 0 then (if bt333.2 = 0 then (if bt335.2 = 0 then (if bt337.2 = 0 then (if ((bt335.1.toList == bt337.1.toList) != (t329 == t330)) = true then (letterlocklaw6_RegressKeys.j1 k t329 t330 bt333.1 bt335.1 bt337.1 true) else (if bt335.1.toList = bt333.1.toList then (letterlocklaw6_RegressKeys.j1 k t329 t330 bt333.1 bt335.1 bt337.1 true) else (letterlocklaw6_RegressKeys.j1 k t329 t330 bt333.1 bt335.1 bt337.1 (bt335.1.toList == x8.toList)))) else (letterlocklaw6_RegressKeys.j1 k t329 t330 bt333.1 bt335.1 bt337.1 true)) else (letterlocklaw6_RegressKeys.j1 k t329 t330 bt333.1 bt335.1 bt337.1 true)) else (letterlocklaw6_RegressKeys.j1 k t329 t330 bt333.1 bt335.1 bt337.1 true)) else (letterlocklaw6_RegressKeys.j1 k t329 t330 bt333.1 bt335.1 bt337.1 true))))))))
def letterlocklaw6_RegressKeys.j1 : Nat → Int → Int → ByteArray → ByteArray → ByteArray → Bool → Option (Bool)
  | 0, _, _, _, _, _, _ => none
  | k + 1, x10, x11, x14, x16, x18, x94 => if x94 = true then (some false) else ((closure_Derives.f (([x16] : List ByteArray)) x14).bind fun bt342 => ((closure_Derives.f (([x16] : List ByteArray)) x18).bind fun bt347 => (if bt342.2 = 0 then (if bt347.2 = 0 then (if bt342.1 = true then (some false) else (some (bt347.1 == (x10 == x11)))) else (some false)) else (some false))))
end
def letterlocklaw6_RegressKeys.f (k : Nat) (a0 : Int) (a1 : Int) (a2 : Int) : Option (Bool) := (letterlocklaw6_shown.f k).bind fun t326 => ((draw_Secret.f k (⟨#[114, 111, 111, 116]⟩ : ByteArray) (⟨#[120]⟩ : ByteArray) a0).bind fun bt327 => (if t326 = true then (letterlocklaw6_RegressKeys.j0 k a1 a2 bt327.1 (bt327.2 != 0)) else (letterlocklaw6_RegressKeys.j0 k a1 a2 bt327.1 true)))
theorem letterlocklaw6_RegressKeys.mono_l : ∀ k, (∀ y0 y1 y2 y3, LeO (letterlocklaw6_RegressKeys.j0 k y0 y1 y2 y3) (letterlocklaw6_RegressKeys.j0 (k + 1) y0 y1 y2 y3)) ∧ (∀ y0 y1 y2 y3 y4 y5, LeO (letterlocklaw6_RegressKeys.j1 k y0 y1 y2 y3 y4 y5) (letterlocklaw6_RegressKeys.j1 (k + 1) y0 y1 y2 y3 y4 y5))
  | 0 => ⟨fun _ _ _ _ r h => by simp [letterlocklaw6_RegressKeys.j0] at h, fun _ _ _ _ _ _ r h => by simp [letterlocklaw6_RegressKeys.j1] at h⟩
  | k + 1 => by
    obtain ⟨ih0, ih1⟩ := letterlocklaw6_RegressKeys.mono_l k
    refine ⟨?_, ?_⟩
    · intro y0 y1 y2 y3
      unfold letterlocklaw6_RegressKeys.j0
      repeat' first
      | (with_reducible exact ih0 _ _ _ _)
      | (with_reducible exact ih1 _ _ _ _ _ _)
      | (with_reducible exact draw_Secret.mono _ _ _ _)
      | (with_reducible exact letterlocklaw6_shown.mono _)
      | (with_reducible exact regress_Key.mono _ _)
      | (with_reducible exact regress_State.mono _ _ _)
      | (with_reducible exact LeO.refl _)
      | (with_reducible exact LeO.none _)
      | (with_reducible refine LeO.ite ?_ ?_)
      | (with_reducible refine LeO.bind ?_ (fun _ => ?_))
      | exact ih0 _ _ _ _
      | exact ih1 _ _ _ _ _ _
      | exact draw_Secret.mono _ _ _ _
      | exact letterlocklaw6_shown.mono _
      | exact regress_Key.mono _ _
      | exact regress_State.mono _ _ _
      | exact LeO.none _
      | refine LeO.ite ?_ ?_
      | refine LeO.bind ?_ (fun _ => ?_)
    · intro y0 y1 y2 y3 y4 y5
      unfold letterlocklaw6_RegressKeys.j1
      repeat' first
      | (with_reducible exact ih0 _ _ _ _)
      | (with_reducible exact ih1 _ _ _ _ _ _)
      | (with_reducible exact draw_Secret.mono _ _ _ _)
      | (with_reducible exact letterlocklaw6_shown.mono _)
      | (with_reducible exact regress_Key.mono _ _)
      | (with_reducible exact regress_State.mono _ _ _)
      | (with_reducible exact LeO.refl _)
      | (with_reducible exact LeO.none _)
      | (with_reducible refine LeO.ite ?_ ?_)
      | (with_reducible refine LeO.bind ?_ (fun _ => ?_))
      | exact ih0 _ _ _ _
      | exact ih1 _ _ _ _ _ _
      | exact draw_Secret.mono _ _ _ _
      | exact letterlocklaw6_shown.mono _
      | exact regress_Key.mono _ _
      | exact regress_State.mono _ _ _
      | exact LeO.none _
      | refine LeO.ite ?_ ?_
      | refine LeO.bind ?_ (fun _ => ?_)
theorem letterlocklaw6_RegressKeys.mono : ∀ a0 a1 a2 k, LeO (letterlocklaw6_RegressKeys.f k a0 a1 a2) (letterlocklaw6_RegressKeys.f (k + 1) a0 a1 a2) := by
  intro a0 a1 a2 k
  obtain ⟨ih0, ih1⟩ := letterlocklaw6_RegressKeys.mono_l k
  unfold letterlocklaw6_RegressKeys.f
  repeat' first
      | (with_reducible exact ih0 _ _ _ _)
      | (with_reducible exact ih1 _ _ _ _ _ _)
      | (with_reducible exact draw_Secret.mono _ _ _ _)
      | (with_reducible exact letterlocklaw6_shown.mono _)
      | (with_reducible exact regress_Key.mono _ _)
      | (with_reducible exact regress_State.mono _ _ _)
      | (with_reducible exact LeO.refl _)
      | (with_reducible exact LeO.none _)
      | (with_reducible refine LeO.ite ?_ ?_)
      | (with_reducible refine LeO.bind ?_ (fun _ => ?_))
      | exact ih0 _ _ _ _
      | exact ih1 _ _ _ _ _ _
      | exact draw_Secret.mono _ _ _ _
      | exact letterlocklaw6_shown.mono _
      | exact regress_Key.mono _ _
      | exact regress_State.mono _ _ _
      | exact LeO.none _
      | refine LeO.ite ?_ ?_
      | refine LeO.bind ?_ (fun _ => ?_)
set_option maxHeartbeats 8000000 in
set_option maxRecDepth 100000 in
theorem letterlocklaw6_RegressKeys.calls (k : Nat) (a0 : Int) (a1 : Int) (a2 : Int) (r : Bool) (w : World) (h : letterlocklaw6_RegressKeys.f k a0 a1 a2 = some r) :
    Calls Try.prog 12 #[.int .u64 a0, .int .i64 a1, .int .i64 a2] w fun e w' => e = .returned (.bool r) ∧ Below w.heap.size w w' := by
  have HB := Aside0.mk (Below.refl w.heap.size w)
  have H : ((letterlocklaw6_shown.f k).bind fun t326 => ((draw_Secret.f k (⟨#[114, 111, 111, 116]⟩ : ByteArray) (⟨#[120]⟩ : ByteArray) a0).bind fun bt327 => (if t326 = true then (letterlocklaw6_RegressKeys.j0 k a1 a2 bt327.1 (bt327.2 != 0)) else (letterlocklaw6_RegressKeys.j0 k a1 a2 bt327.1 true)))) = some r := h
  clear h
  replace H := Option.bind_eq_some_iff.mp H
  obtain ⟨t326, A40, H⟩ := H
  replace H : ((draw_Secret.f k (⟨#[114, 111, 111, 116]⟩ : ByteArray) (⟨#[120]⟩ : ByteArray) a0).bind fun bt327 => (if t326 = true then (letterlocklaw6_RegressKeys.j0 k a1 a2 bt327.1 (bt327.2 != 0)) else (letterlocklaw6_RegressKeys.j0 k a1 a2 bt327.1 true))) = some r := H
  have A4 := Aside0.mk A40
  clear A40
  replace H := Option.bind_eq_some_iff.mp H
  obtain ⟨⟨t327, t328⟩, A50, H⟩ := H
  replace H : (if t326 = true then (letterlocklaw6_RegressKeys.j0 k a1 a2 t327 (t328 != 0)) else (letterlocklaw6_RegressKeys.j0 k a1 a2 t327 true)) = some r := H
  have A5 := Aside0.mk A50
  clear A50
  have HC6 := Aside0.mk H
  clear H
  go_enter Try.func12, Try.ntmps12
  go_upto_region 3 with (first | ((with_reducible refine gate_callee (f := 35) rfl ?_); refine goesL_ (some 24) rfl rfl Try.func35 (by kernel_rfl) rfl #[] rfl (by (try simp only [List.map_toArray, List.map_cons, List.map_nil]); first | done | rfl | (simp only [List.length_drop, List.length_take]; rfl)) ?_; (with_reducible refine (letterlocklaw6_shown.calls k  t326 _ A4.out).mono ?_); rintro e w7 ⟨rfl, hb⟩; refine ⟨_, rfl, ?_⟩; have n0_ := Aside0.mk (below_step (by repeat (first | (with_reducible first | exact HB.out | apply below_alloc | apply pw_below_drewN | apply below_drew1) | exact HB.out)) hb); clear HB; have HB := n0_; clear n0_; (try clear hb); (try clear hb2); (try clear hk); (try clear hi)) | ((with_reducible refine gate_callee (f := 34) rfl ?_); refine goesL_ (some 27) rfl rfl Try.func34 (by kernel_rfl) rfl #[.string (⟨#[114, 111, 111, 116]⟩ : ByteArray), .string (⟨#[120]⟩ : ByteArray), .int .u64 a0] rfl (by (try simp only [List.map_toArray, List.map_cons, List.map_nil]); first | done | rfl | (simp only [List.length_drop, List.length_take]; rfl)) ?_; (with_reducible refine (draw_Secret.calls k (⟨#[114, 111, 111, 116]⟩ : ByteArray) (⟨#[120]⟩ : ByteArray) a0 t327 t328 _ A5.out).mono ?_); rintro e w8 ⟨rfl, hb⟩; refine ⟨_, rfl, ?_⟩; have n0_ := Aside0.mk (below_step (by repeat (first | (with_reducible first | exact HB.out | apply below_alloc | apply pw_below_drewN | apply below_drew1) | exact HB.out)) hb); clear HB; have HB := n0_; clear n0_; (try clear hb); (try clear hb2); (try clear hk); (try clear hi)))
  (try simp only [Act.put, List.setIfInBounds_toArray, List.set_cons_zero, List.set_cons_succ])
  go_cut [35] (fun v35 wc => ∃ (kq : Nat) (x35_5 : Bool), v35 = .bool x35_5 ∧ Aside0 (letterlocklaw6_RegressKeys.j0 kq a1 a2 t327 x35_5 = some r) ∧ Aside0 (kq ≤ k) ∧ Aside0 (Below w.heap.size w wc))
  case first =>
    have H := HC6.out
    clear HC6
    by_cases c9 : t326 = true
    · subst c9
      have H1 : (letterlocklaw6_RegressKeys.j0 k a1 a2 t327 (t328 != 0)) = some r := by rw [if_pos rfl] at H; exact H
      clear H
      have H := H1
      clear H1
      have H' := Aside0.mk H
      clear H
      go_wp2
      go_meet
      case rel => exact ⟨_, ((t328 != 0)), (by first | rfl | (simp; done) | (simp [*]; done)), H', ⟨by first | omega | exact Nat.le_refl _⟩, ⟨by repeat (first | (with_reducible first | exact HB.out | apply below_alloc | apply pw_below_drewN | apply below_drew1) | exact HB.out)⟩⟩
    · replace c9 := Bool.eq_false_iff.mpr c9
      subst c9
      have H1 : (letterlocklaw6_RegressKeys.j0 k a1 a2 t327 true) = some r := by rw [if_neg (show ¬ (false = true) by decide)] at H; exact H
      clear H
      have H := H1
      clear H1
      have H' := Aside0.mk H
      clear H
      go_wp2
      go_meet
      case rel => exact ⟨_, (true), (by first | rfl | (simp; done) | (simp [*]; done)), H', ⟨by first | omega | exact Nat.le_refl _⟩, ⟨by repeat (first | (with_reducible first | exact HB.out | apply below_alloc | apply pw_below_drewN | apply below_drew1) | exact HB.out)⟩⟩
  case rest =>
    clear HC6
    try clear c1
    try clear p2
    try clear c3
    try clear c9
    obtain ⟨kq, x35_5, rfl, HA, HJ5, HB⟩ := hcut
    cases kq with
    | zero => exact absurd HA.out (by simp [letterlocklaw6_RegressKeys.j0])
    | succ kj5 =>
      have H := HA.out
      clear HA
      simp only [letterlocklaw6_RegressKeys.j0] at H
      by_cases c10 : x35_5 = true
      · subst c10
        have H1 : (some false) = some r := by rw [if_pos rfl] at H; exact H
        clear H
        have H := H1
        clear H1
        obtain rfl := Option.some.inj H
        go_wp2
        go_ret
        exact ⟨by first | rfl | (simp [errW_none, errW_some] <;> rfl) | (simp [*, errW_none, errW_some] <;> rfl), by repeat (first | (with_reducible first | exact HB.out | apply below_alloc | apply pw_below_drewN | apply below_drew1) | exact HB.out)⟩
      · replace c10 := Bool.eq_false_iff.mpr c10
        subst c10
        have H1 : ((letterlocklaw6_pick.f a1 8).bind fun t329 => ((letterlocklaw6_pick.f a2 8).bind fun t330 => ((regress_State.f kj5 t327 t329).bind fun bt331 => ((regress_State.f kj5 t327 t330).bind fun bt333 => ((regress_Key.f kj5 bt331.1).bind fun bt335 => ((regress_Key.f kj5 bt333.1).bind fun bt337 => (if bt331.2 = 0 then (if bt333.2 = 0 then (if bt335.2 = 0 then (if bt337.2 = 0 then (if ((bt335.1.toList == bt337.1.toList) != (t329 == t330)) = true then (letterlocklaw6_RegressKeys.j1 kj5 t329 t330 bt333.1 bt335.1 bt337.1 true) else (if bt335.1.toList = bt333.1.toList then (letterlocklaw6_RegressKeys.j1 kj5 t329 t330 bt333.1 bt335.1 bt337.1 true) else (letterlocklaw6_RegressKeys.j1 kj5 t329 t330 bt333.1 bt335.1 bt337.1 (bt335.1.toList == t327.toList)))) else (letterlocklaw6_RegressKeys.j1 kj5 t329 t330 bt333.1 bt335.1 bt337.1 true)) else (letterlocklaw6_RegressKeys.j1 kj5 t329 t330 bt333.1 bt335.1 bt337.1 true)) else (letterlocklaw6_RegressKeys.j1 kj5 t329 t330 bt333.1 bt335.1 bt337.1 true)) else (letterlocklaw6_RegressKeys.j1 kj5 t329 t330 bt333.1 bt335.1 bt337.1 true)))))))) = some r := by rw [if_neg (show ¬ (false = true) by decide)] at H; exact H
        clear H
        have H := H1
        clear H1
        replace H := Option.bind_eq_some_iff.mp H
        obtain ⟨t329, A110, H⟩ := H
        replace H : ((letterlocklaw6_pick.f a2 8).bind fun t330 => ((regress_State.f kj5 t327 t329).bind fun bt331 => ((regress_State.f kj5 t327 t330).bind fun bt333 => ((regress_Key.f kj5 bt331.1).bind fun bt335 => ((regress_Key.f kj5 bt333.1).bind fun bt337 => (if bt331.2 = 0 then (if bt333.2 = 0 then (if bt335.2 = 0 then (if bt337.2 = 0 then (if ((bt335.1.toList == bt337.1.toList) != (t329 == t330)) = true then (letterlocklaw6_RegressKeys.j1 kj5 t329 t330 bt333.1 bt335.1 bt337.1 true) else (if bt335.1.toList = bt333.1.toList then (letterlocklaw6_RegressKeys.j1 kj5 t329 t330 bt333.1 bt335.1 bt337.1 true) else (letterlocklaw6_RegressKeys.j1 kj5 t329 t330 bt333.1 bt335.1 bt337.1 (bt335.1.toList == t327.toList)))) else (letterlocklaw6_RegressKeys.j1 kj5 t329 t330 bt333.1 bt335.1 bt337.1 true)) else (letterlocklaw6_RegressKeys.j1 kj5 t329 t330 bt333.1 bt335.1 bt337.1 true)) else (letterlocklaw6_RegressKeys.j1 kj5 t329 t330 bt333.1 bt335.1 bt337.1 true)) else (letterlocklaw6_RegressKeys.j1 kj5 t329 t330 bt333.1 bt335.1 bt337.1 true))))))) = some r := H
        have A11 := Aside0.mk A110
        clear A110
        replace H := Option.bind_eq_some_iff.mp H
        obtain ⟨t330, A120, H⟩ := H
        replace H : ((regress_State.f kj5 t327 t329).bind fun bt331 => ((regress_State.f kj5 t327 t330).bind fun bt333 => ((regress_Key.f kj5 bt331.1).bind fun bt335 => ((regress_Key.f kj5 bt333.1).bind fun bt337 => (if bt331.2 = 0 then (if bt333.2 = 0 then (if bt335.2 = 0 then (if bt337.2 = 0 then (if ((bt335.1.toList == bt337.1.toList) != (t329 == t330)) = true then (letterlocklaw6_RegressKeys.j1 kj5 t329 t330 bt333.1 bt335.1 bt337.1 true) else (if bt335.1.toList = bt333.1.toList then (letterlocklaw6_RegressKeys.j1 kj5 t329 t330 bt333.1 bt335.1 bt337.1 true) else (letterlocklaw6_RegressKeys.j1 kj5 t329 t330 bt333.1 bt335.1 bt337.1 (bt335.1.toList == t327.toList)))) else (letterlocklaw6_RegressKeys.j1 kj5 t329 t330 bt333.1 bt335.1 bt337.1 true)) else (letterlocklaw6_RegressKeys.j1 kj5 t329 t330 bt333.1 bt335.1 bt337.1 true)) else (letterlocklaw6_RegressKeys.j1 kj5 t329 t330 bt333.1 bt335.1 bt337.1 true)) else (letterlocklaw6_RegressKeys.j1 kj5 t329 t330 bt333.1 bt335.1 bt337.1 true)))))) = some r := H
        have A12 := Aside0.mk A120
        clear A120
        replace H := Option.bind_eq_some_iff.mp H
        obtain ⟨⟨t331, t332⟩, A130, H⟩ := H
        replace H : ((regress_State.f kj5 t327 t330).bind fun bt333 => ((regress_Key.f kj5 t331).bind fun bt335 => ((regress_Key.f kj5 bt333.1).bind fun bt337 => (if t332 = 0 then (if bt333.2 = 0 then (if bt335.2 = 0 then (if bt337.2 = 0 then (if ((bt335.1.toList == bt337.1.toList) != (t329 == t330)) = true then (letterlocklaw6_RegressKeys.j1 kj5 t329 t330 bt333.1 bt335.1 bt337.1 true) else (if bt335.1.toList = bt333.1.toList then (letterlocklaw6_RegressKeys.j1 kj5 t329 t330 bt333.1 bt335.1 bt337.1 true) else (letterlocklaw6_RegressKeys.j1 kj5 t329 t330 bt333.1 bt335.1 bt337.1 (bt335.1.toList == t327.toList)))) else (letterlocklaw6_RegressKeys.j1 kj5 t329 t330 bt333.1 bt335.1 bt337.1 true)) else (letterlocklaw6_RegressKeys.j1 kj5 t329 t330 bt333.1 bt335.1 bt337.1 true)) else (letterlocklaw6_RegressKeys.j1 kj5 t329 t330 bt333.1 bt335.1 bt337.1 true)) else (letterlocklaw6_RegressKeys.j1 kj5 t329 t330 bt333.1 bt335.1 bt337.1 true))))) = some r := H
        have A13 := Aside0.mk A130
        clear A130
        replace H := Option.bind_eq_some_iff.mp H
        obtain ⟨⟨t333, t334⟩, A140, H⟩ := H
        replace H : ((regress_Key.f kj5 t331).bind fun bt335 => ((regress_Key.f kj5 t333).bind fun bt337 => (if t332 = 0 then (if t334 = 0 then (if bt335.2 = 0 then (if bt337.2 = 0 then (if ((bt335.1.toList == bt337.1.toList) != (t329 == t330)) = true then (letterlocklaw6_RegressKeys.j1 kj5 t329 t330 t333 bt335.1 bt337.1 true) else (if bt335.1.toList = t333.toList then (letterlocklaw6_RegressKeys.j1 kj5 t329 t330 t333 bt335.1 bt337.1 true) else (letterlocklaw6_RegressKeys.j1 kj5 t329 t330 t333 bt335.1 bt337.1 (bt335.1.toList == t327.toList)))) else (letterlocklaw6_RegressKeys.j1 kj5 t329 t330 t333 bt335.1 bt337.1 true)) else (letterlocklaw6_RegressKeys.j1 kj5 t329 t330 t333 bt335.1 bt337.1 true)) else (letterlocklaw6_RegressKeys.j1 kj5 t329 t330 t333 bt335.1 bt337.1 true)) else (letterlocklaw6_RegressKeys.j1 kj5 t329 t330 t333 bt335.1 bt337.1 true)))) = some r := H
        have A14 := Aside0.mk A140
        clear A140
        replace H := Option.bind_eq_some_iff.mp H
        obtain ⟨⟨t335, t336⟩, A150, H⟩ := H
        replace H : ((regress_Key.f kj5 t333).bind fun bt337 => (if t332 = 0 then (if t334 = 0 then (if t336 = 0 then (if bt337.2 = 0 then (if ((t335.toList == bt337.1.toList) != (t329 == t330)) = true then (letterlocklaw6_RegressKeys.j1 kj5 t329 t330 t333 t335 bt337.1 true) else (if t335.toList = t333.toList then (letterlocklaw6_RegressKeys.j1 kj5 t329 t330 t333 t335 bt337.1 true) else (letterlocklaw6_RegressKeys.j1 kj5 t329 t330 t333 t335 bt337.1 (t335.toList == t327.toList)))) else (letterlocklaw6_RegressKeys.j1 kj5 t329 t330 t333 t335 bt337.1 true)) else (letterlocklaw6_RegressKeys.j1 kj5 t329 t330 t333 t335 bt337.1 true)) else (letterlocklaw6_RegressKeys.j1 kj5 t329 t330 t333 t335 bt337.1 true)) else (letterlocklaw6_RegressKeys.j1 kj5 t329 t330 t333 t335 bt337.1 true))) = some r := H
        have A15 := Aside0.mk A150
        clear A150
        replace H := Option.bind_eq_some_iff.mp H
        obtain ⟨⟨t337, t338⟩, A160, H⟩ := H
        replace H : (if t332 = 0 then (if t334 = 0 then (if t336 = 0 then (if t338 = 0 then (if ((t335.toList == t337.toList) != (t329 == t330)) = true then (letterlocklaw6_RegressKeys.j1 kj5 t329 t330 t333 t335 t337 true) else (if t335.toList = t333.toList then (letterlocklaw6_RegressKeys.j1 kj5 t329 t330 t333 t335 t337 true) else (letterlocklaw6_RegressKeys.j1 kj5 t329 t330 t333 t335 t337 (t335.toList == t327.toList)))) else (letterlocklaw6_RegressKeys.j1 kj5 t329 t330 t333 t335 t337 true)) else (letterlocklaw6_RegressKeys.j1 kj5 t329 t330 t333 t335 t337 true)) else (letterlocklaw6_RegressKeys.j1 kj5 t329 t330 t333 t335 t337 true)) else (letterlocklaw6_RegressKeys.j1 kj5 t329 t330 t333 t335 t337 true)) = some r := H
        have A16 := Aside0.mk A160
        clear A160
        have HC17 := Aside0.mk H
        clear H
        go_upto_region 11 with (first | ((with_reducible refine gate_callee (f := 36) rfl ?_); refine goesL_ (some 37) rfl rfl Try.func36 (by kernel_rfl) rfl #[.int .i64 a1, .int .i64 8] rfl (by (try simp only [List.map_toArray, List.map_cons, List.map_nil]); first | done | rfl | (simp only [List.length_drop, List.length_take]; rfl)) ?_; (with_reducible refine (letterlocklaw6_pick.calls a1 8 t329 _ A11.out).mono ?_); rintro e w' ⟨rfl, ⟨nd, rfl⟩⟩; refine ⟨_, rfl, ?_⟩) | ((with_reducible refine gate_callee (f := 36) rfl ?_); refine goesL_ (some 39) rfl rfl Try.func36 (by kernel_rfl) rfl #[.int .i64 a2, .int .i64 8] rfl (by (try simp only [List.map_toArray, List.map_cons, List.map_nil]); first | done | rfl | (simp only [List.length_drop, List.length_take]; rfl)) ?_; (with_reducible refine (letterlocklaw6_pick.calls a2 8 t330 _ A12.out).mono ?_); rintro e w' ⟨rfl, ⟨nd, rfl⟩⟩; refine ⟨_, rfl, ?_⟩) | ((with_reducible refine gate_callee (f := 37) rfl ?_); refine goesL_ (some 43) rfl rfl Try.func37 (by kernel_rfl) rfl #[.string t327, .int .i64 t329] rfl (by (try simp only [List.map_toArray, List.map_cons, List.map_nil]); first | done | rfl | (simp only [List.length_drop, List.length_take]; rfl)) ?_; (with_reducible refine (regress_State.calls kj5 t327 t329 t331 t332 _ A13.out).mono ?_); rintro e w18 ⟨rfl, hb⟩; refine ⟨_, rfl, ?_⟩; have n0_ := Aside0.mk (below_step (by repeat (first | (with_reducible first | exact HB.out | apply below_alloc | apply pw_below_drewN | apply below_drew1) | exact HB.out)) hb); clear HB; have HB := n0_; clear n0_; (try clear hb); (try clear hb2); (try clear hk); (try clear hi)) | ((with_reducible refine gate_callee (f := 37) rfl ?_); refine goesL_ (some 49) rfl rfl Try.func37 (by kernel_rfl) rfl #[.string t327, .int .i64 t330] rfl (by (try simp only [List.map_toArray, List.map_cons, List.map_nil]); first | done | rfl | (simp only [List.length_drop, List.length_take]; rfl)) ?_; (with_reducible refine (regress_State.calls kj5 t327 t330 t333 t334 _ A14.out).mono ?_); rintro e w19 ⟨rfl, hb⟩; refine ⟨_, rfl, ?_⟩; have n0_ := Aside0.mk (below_step (by repeat (first | (with_reducible first | exact HB.out | apply below_alloc | apply pw_below_drewN | apply below_drew1) | exact HB.out)) hb); clear HB; have HB := n0_; clear n0_; (try clear hb); (try clear hb2); (try clear hk); (try clear hi)) | ((with_reducible refine gate_callee (f := 38) rfl ?_); refine goesL_ (some 54) rfl rfl Try.func38 (by kernel_rfl) rfl #[.string t331] rfl (by (try simp only [List.map_toArray, List.map_cons, List.map_nil]); first | done | rfl | (simp only [List.length_drop, List.length_take]; rfl)) ?_; (with_reducible refine (regress_Key.calls kj5 t331 t335 t336 _ A15.out).mono ?_); rintro e w20 ⟨rfl, hb⟩; refine ⟨_, rfl, ?_⟩; have n0_ := Aside0.mk (below_step (by repeat (first | (with_reducible first | exact HB.out | apply below_alloc | apply pw_below_drewN | apply below_drew1) | exact HB.out)) hb); clear HB; have HB := n0_; clear n0_; (try clear hb); (try clear hb2); (try clear hk); (try clear hi)) | ((with_reducible refine gate_callee (f := 38) rfl ?_); refine goesL_ (some 59) rfl rfl Try.func38 (by kernel_rfl) rfl #[.string t333] rfl (by (try simp only [List.map_toArray, List.map_cons, List.map_nil]); first | done | rfl | (simp only [List.length_drop, List.length_take]; rfl)) ?_; (with_reducible refine (regress_Key.calls kj5 t333 t337 t338 _ A16.out).mono ?_); rintro e w21 ⟨rfl, hb⟩; refine ⟨_, rfl, ?_⟩; have n0_ := Aside0.mk (below_step (by repeat (first | (with_reducible first | exact HB.out | apply below_alloc | apply pw_below_drewN | apply below_drew1) | exact HB.out)) hb); clear HB; have HB := n0_; clear n0_; (try clear hb); (try clear hb2); (try clear hk); (try clear hi)))
        (try simp only [Act.put, List.setIfInBounds_toArray, List.set_cons_zero, List.set_cons_succ])
        go_cut [94] (fun v94 wc => ∃ (kq : Nat) (x94_16 : Bool), v94 = .bool x94_16 ∧ Aside0 (letterlocklaw6_RegressKeys.j1 kq t329 t330 t333 t335 t337 x94_16 = some r) ∧ Aside0 (kq ≤ kj5) ∧ Aside0 (Below w.heap.size w wc))
        case first =>
          have H := HC17.out
          clear HC17
          by_cases c22 : t332 = 0
          · rw [if_pos c22] at H
            have c22b0 : (t332 == 0) = true := beq_iff_eq.mpr c22
            have c22b1 : (t332 != 0) = false := bne_eq_false_iff_eq.mpr c22
            clear c22
            (first | rw [c22b0] | (simp only [i64_w, i32_w]; rw [c22b0]) | skip)
            by_cases c23 : t334 = 0
            · rw [if_pos c23] at H
              have c23b0 : (t334 == 0) = true := beq_iff_eq.mpr c23
              have c23b1 : (t334 != 0) = false := bne_eq_false_iff_eq.mpr c23
              clear c23
              by_cases c24 : t336 = 0
              · rw [if_pos c24] at H
                have c24b0 : (t336 == 0) = true := beq_iff_eq.mpr c24
                have c24b1 : (t336 != 0) = false := bne_eq_false_iff_eq.mpr c24
                clear c24
                by_cases c25 : t338 = 0
                · rw [if_pos c25] at H
                  have c25b0 : (t338 == 0) = true := beq_iff_eq.mpr c25
                  have c25b1 : (t338 != 0) = false := bne_eq_false_iff_eq.mpr c25
                  clear c25
                  by_cases c26 : ((t335.toList == t337.toList) != (t329 == t330)) = true
                  · rw [if_pos c26] at H
                    have c26b0 : ((t335.toList == t337.toList) != (t329 == t330)) = true := c26
                    (try (have c26b1 : decide ((t335.toList == t337.toList) = (t329 == t330)) = false := by simpa using c26))
                    (try (have c26b2 : ((t335.toList == t337.toList) == (t329 == t330)) = false := by simpa using c26))
                    (try (have c26b3 : ¬ ((t335.toList == t337.toList) = (t329 == t330)) := by simpa using c26))
                    clear c26
                    have H' := Aside0.mk H
                    clear H
                    go_wp2
                    go_meet
                    case rel => exact ⟨_, (true), (by first | rfl | (simp; done) | (simp [*]; done)), H', ⟨by have := HJ5.out; first | omega | exact Nat.le_refl _⟩, ⟨by repeat (first | (with_reducible first | exact HB.out | apply below_alloc | apply pw_below_drewN | apply below_drew1) | exact HB.out)⟩⟩
                  · rw [if_neg c26] at H
                    have c26b0 : ((t335.toList == t337.toList) != (t329 == t330)) = false := by simpa using c26
                    (try (have c26b1 : decide ((t335.toList == t337.toList) = (t329 == t330)) = true := by simpa using c26))
                    (try (have c26b2 : ((t335.toList == t337.toList) == (t329 == t330)) = true := by simpa using c26))
                    clear c26
                    by_cases c27 : t335.toList = t333.toList
                    · rw [if_pos c27] at H
                      have c27b0 : (t335.toList == t333.toList) = true := beq_iff_eq.mpr c27
                      have c27b1 : (t335.toList != t333.toList) = false := bne_eq_false_iff_eq.mpr c27
                      clear c27
                      have H' := Aside0.mk H
                      clear H
                      go_wp2
                      go_meet
                      case rel => exact ⟨_, (true), (by first | rfl | (simp; done) | (simp [*]; done)), H', ⟨by have := HJ5.out; first | omega | exact Nat.le_refl _⟩, ⟨by repeat (first | (with_reducible first | exact HB.out | apply below_alloc | apply pw_below_drewN | apply below_drew1) | exact HB.out)⟩⟩
                    · rw [if_neg c27] at H
                      have c27b0 : (t335.toList == t333.toList) = false := beq_eq_false_iff_ne.mpr c27
                      have c27b1 : (t335.toList != t333.toList) = true := bne_iff_ne.mpr c27
                      have H' := Aside0.mk H
                      clear H
                      go_wp2
                      go_meet
                      case rel => exact ⟨_, ((t335.toList == t327.toList)), (by first | rfl | (simp; done) | (simp [*]; done)), H', ⟨by have := HJ5.out; first | omega | exact Nat.le_refl _⟩, ⟨by repeat (first | (with_reducible first | exact HB.out | apply below_alloc | apply pw_below_drewN | apply below_drew1) | exact HB.out)⟩⟩
                · rw [if_neg c25] at H
                  have c25b0 : (t338 == 0) = false := beq_eq_false_iff_ne.mpr c25
                  have c25b1 : (t338 != 0) = true := bne_iff_ne.mpr c25
                  have H' := Aside0.mk H
                  clear H
                  go_wp2
                  go_meet
                  case rel => exact ⟨_, (true), (by first | rfl | (simp; done) | (simp [*]; done)), H', ⟨by have := HJ5.out; first | omega | exact Nat.le_refl _⟩, ⟨by repeat (first | (with_reducible first | exact HB.out | apply below_alloc | apply pw_below_drewN | apply below_drew1) | exact HB.out)⟩⟩
              · rw [if_neg c24] at H
                have c24b0 : (t336 == 0) = false := beq_eq_false_iff_ne.mpr c24
                have c24b1 : (t336 != 0) = true := bne_iff_ne.mpr c24
                have H' := Aside0.mk H
                clear H
                go_wp2
                go_meet
                case rel => exact ⟨_, (true), (by first | rfl | (simp; done) | (simp [*]; done)), H', ⟨by have := HJ5.out; first | omega | exact Nat.le_refl _⟩, ⟨by repeat (first | (with_reducible first | exact HB.out | apply below_alloc | apply pw_below_drewN | apply below_drew1) | exact HB.out)⟩⟩
            · rw [if_neg c23] at H
              have c23b0 : (t334 == 0) = false := beq_eq_false_iff_ne.mpr c23
              have c23b1 : (t334 != 0) = true := bne_iff_ne.mpr c23
              have H' := Aside0.mk H
              clear H
              go_wp2
              go_meet
              case rel => exact ⟨_, (true), (by first | rfl | (simp; done) | (simp [*]; done)), H', ⟨by have := HJ5.out; first | omega | exact Nat.le_refl _⟩, ⟨by repeat (first | (with_reducible first | exact HB.out | apply below_alloc | apply pw_below_drewN | apply below_drew1) | exact HB.out)⟩⟩
          · rw [if_neg c22] at H
            have c22b0 : (t332 == 0) = false := beq_eq_false_iff_ne.mpr c22
            have c22b1 : (t332 != 0) = true := bne_iff_ne.mpr c22
            (first | rw [c22b0] | (simp only [i64_w, i32_w]; rw [c22b0]) | skip)
            have H' := Aside0.mk H
            clear H
            go_wp2
            go_meet
            case rel => exact ⟨_, (true), (by first | rfl | (simp; done) | (simp [*]; done)), H', ⟨by have := HJ5.out; first | omega | exact Nat.le_refl _⟩, ⟨by repeat (first | (with_reducible first | exact HB.out | apply below_alloc | apply pw_below_drewN | apply below_drew1) | exact HB.out)⟩⟩
        case rest =>
          clear HC17
          try clear c1
          try clear c2
          try clear p2
          try clear c3
          try clear c9
          try clear c10
          try clear c12
          try clear c22
          try clear c22b0
          try clear c22b1
          try clear c23
          try clear c23b0
          try clear c23b1
          try clear c24
          try clear c24b0
          try clear c24b1
          try clear c25
          try clear c25b0
          try clear c25b1
          try clear c26
          try clear c26b0
          try clear c26b1
          try clear c26b2
          try clear c27
          try clear c27b0
          try clear c27b1
          try clear p2
          obtain ⟨kq, x94_16, rfl, HA, HJ16, HB⟩ := hcut
          cases kq with
          | zero => exact absurd HA.out (by simp [letterlocklaw6_RegressKeys.j1])
          | succ kj16 =>
            have H := HA.out
            clear HA
            simp only [letterlocklaw6_RegressKeys.j1] at H
            by_cases c28 : x94_16 = true
            · subst c28
              have H1 : (some false) = some r := by rw [if_pos rfl] at H; exact H
              clear H
              have H := H1
              clear H1
              obtain rfl := Option.some.inj H
              go_wp2
              go_ret
              exact ⟨by first | rfl | (simp [errW_none, errW_some] <;> rfl) | (simp [*, errW_none, errW_some] <;> rfl), by repeat (first | (with_reducible first | exact HB.out | apply below_alloc | apply pw_below_drewN | apply below_drew1) | exact HB.out)⟩
            · replace c28 := Bool.eq_false_iff.mpr c28
              subst c28
              have H1 : ((closure_Derives.f (([t335] : List ByteArray)) t333).bind fun bt342 => ((closure_Derives.f (([t335] : List ByteArray)) t337).bind fun bt347 => (if bt342.2 = 0 then (if bt347.2 = 0 then (if bt342.1 = true then (some false) else (some (bt347.1 == (t329 == t330)))) else (some false)) else (some false)))) = some r := by rw [if_neg (show ¬ (false = true) by decide)] at H; exact H
              clear H
              have H := H1
              clear H1
              obtain ⟨y339, hy339⟩ : ∃ y_ : List ByteArray, y_ = (([t335] : List ByteArray)) := ⟨_, rfl⟩
              replace H : ((closure_Derives.f y339 t333).bind fun bt342 => ((closure_Derives.f (([t335] : List ByteArray)) t337).bind fun bt347 => (if bt342.2 = 0 then (if bt347.2 = 0 then (if bt342.1 = true then (some false) else (some (bt347.1 == (t329 == t330)))) else (some false)) else (some false)))) = some r := by first | (rw [hy339]; with_reducible exact H) | (have H2_ := (Option.bind_some _ _).symm.trans H; rw [hy339]; with_reducible exact H2_) | (have H2_ := (Option.bind_some _ _).symm.trans H; with_reducible exact H2_) | with_reducible exact H | (rw [hy339]; exact H) | exact H
              have Ny339 := Aside0.mk hy339
              clear hy339
              replace H := Option.bind_eq_some_iff.mp H
              obtain ⟨⟨t342, t343⟩, A290, H⟩ := H
              replace H : ((closure_Derives.f (([t335] : List ByteArray)) t337).bind fun bt347 => (if t343 = 0 then (if bt347.2 = 0 then (if t342 = true then (some false) else (some (bt347.1 == (t329 == t330)))) else (some false)) else (some false))) = some r := H
              have A29 := Aside0.mk A290
              clear A290
              obtain ⟨y344, hy344⟩ : ∃ y_ : List ByteArray, y_ = (([t335] : List ByteArray)) := ⟨_, rfl⟩
              replace H : ((closure_Derives.f y344 t337).bind fun bt347 => (if t343 = 0 then (if bt347.2 = 0 then (if t342 = true then (some false) else (some (bt347.1 == (t329 == t330)))) else (some false)) else (some false))) = some r := by first | (rw [hy344]; with_reducible exact H) | (have H2_ := (Option.bind_some _ _).symm.trans H; rw [hy344]; with_reducible exact H2_) | (have H2_ := (Option.bind_some _ _).symm.trans H; with_reducible exact H2_) | with_reducible exact H | (rw [hy344]; exact H) | exact H
              have Ny344 := Aside0.mk hy344
              clear hy344
              replace H := Option.bind_eq_some_iff.mp H
              obtain ⟨⟨t347, t348⟩, A300, H⟩ := H
              replace H : (if t343 = 0 then (if t348 = 0 then (if t342 = true then (some false) else (some (t347 == (t329 == t330)))) else (some false)) else (some false)) = some r := H
              have A30 := Aside0.mk A300
              clear A300
              by_cases c31 : t343 = 0
              · rw [if_pos c31] at H
                have c31b0 : (t343 == 0) = true := beq_iff_eq.mpr c31
                have c31b1 : (t343 != 0) = false := bne_eq_false_iff_eq.mpr c31
                clear c31
                by_cases c32 : t348 = 0
                · rw [if_pos c32] at H
                  have c32b0 : (t348 == 0) = true := beq_iff_eq.mpr c32
                  have c32b1 : (t348 != 0) = false := bne_eq_false_iff_eq.mpr c32
                  clear c32
                  by_cases c33 : t342 = true
                  · subst c33
                    have H1 : (some false) = some r := by rw [if_pos rfl] at H; exact H
                    clear H
                    have H := H1
                    clear H1
                    obtain rfl := Option.some.inj H
                    go_wp2_with (first | ((with_reducible refine gate_dst (N := 97) rfl ?_); refine Kd.R_lit Kd.string _ 9 ?hg (N := 97) ?hd (xs := ([t335] : List ByteArray)) (inner := [.string t335]) (ok := fun _ => True) (okp := fun _ => True) ?hr ?hp (fun _ hk => hk) trivial (Below.refl _ _) (Nat.le_refl _) (by simp) ?_; (case hd => rfl); (case hg => rfl); (case hr => first | (go_simp; done) | (go_simp; rfl)); (case hp => exact (Reps.one (show Kd.M Kd.string _ _ _ t335 [.string t335] from rfl) (Reps.none _ _))); intro v340 w34 ho35 hb hg_ hnew_; clear hg_ hnew_; (first | rw [← Ny339.out] at ho35 | (simp only [Int.reduceToNat] at ho35; rw [← Ny339.out] at ho35)); have n0_ := Aside0.mk (Kd.R_lower ho35 (below_size (by repeat (first | (with_reducible first | exact HB.out | apply below_alloc | apply pw_below_drewN | apply below_drew1) | exact HB.out)))); have n1_ := Aside0.mk (below_step (by repeat (first | (with_reducible first | exact HB.out | apply below_alloc | apply pw_below_drewN | apply below_drew1) | exact HB.out)) hb); clear HB; have HO341 := n0_; have HB := n1_; clear n0_ n1_; clear hb ho35; obtain ⟨Ao36, co36, eo36⟩ := Kd.R_slice HO341.out; subst eo36) | ((with_reducible refine gate_callee (f := 17) rfl ?_); refine goesL_ (some 99) rfl rfl Try.func17 (by kernel_rfl) rfl #[.slice Ao36 y339.length co36, .string t333] rfl (by (try simp only [List.map_toArray, List.map_cons, List.map_nil]); first | done | rfl | (simp only [List.length_drop, List.length_take]; rfl)) ?_; (with_reducible refine (closure_Derives.calls _ _ y339 t333 true t343 _ ?side1 ?side2 A29.out).mono ?_); (case side1 => repeat (first | exact (Kd.R_reads' HO341.out).2.2 | (with_reducible refine Kd.C_alloc ?_ _) | (with_reducible refine Kd.C_drewN ?_ _) | (with_reducible refine Kd.C_drew ?_))); (case side2 => exact (Kd.R_reads' HO341.out).2.1); rintro e w37 ⟨rfl, hb⟩; refine ⟨_, rfl, ?_⟩; have n0_ := Aside0.mk (Kd.R_below (by (with_reducible repeat (first | apply Kd.R_alloc | apply Kd.R_drewN | apply Kd.R_drew)); exact HO341.out) hb); have n1_ := Aside0.mk (below_step (by repeat (first | (with_reducible first | exact HB.out | apply below_alloc | apply pw_below_drewN | apply below_drew1) | exact HB.out)) hb); clear HO341; clear HB; have HO341 := n0_; have HB := n1_; clear n0_ n1_; (try clear hb); (try clear hb2); (try clear hk); (try clear hi)) | ((with_reducible refine gate_dst (N := 104) rfl ?_); refine Kd.R_lit Kd.string _ 9 ?hg (N := 104) ?hd (xs := ([t335] : List ByteArray)) (inner := [.string t335]) (ok := fun _ => True) (okp := fun _ => True) ?hr ?hp (fun _ hk => hk) trivial (Below.refl _ _) (Nat.le_refl _) (by simp) ?_; (case hd => rfl); (case hg => rfl); (case hr => first | (go_simp; done) | (go_simp; rfl)); (case hp => exact (Reps.one (show Kd.M Kd.string _ _ _ t335 [.string t335] from rfl) (Reps.none _ _))); intro v345 w38 ho39 hb hg_ hnew_; clear hg_ hnew_; (first | rw [← Ny344.out] at ho39 | (simp only [Int.reduceToNat] at ho39; rw [← Ny344.out] at ho39)); have n0_ := Aside0.mk (Kd.R_elder' (by (with_reducible repeat (first | apply Kd.R_alloc | apply Kd.R_drewN | apply Kd.R_drew)); exact HO341.out) (Kd.R_base ho39) hb); have n1_ := Aside0.mk (Kd.R_lower (Kd.R_new' ho39 (Kd.R_lt (by (with_reducible repeat (first | apply Kd.R_alloc | apply Kd.R_drewN | apply Kd.R_drew)); exact HO341.out))) (below_size (by repeat (first | (with_reducible first | exact HB.out | apply below_alloc | apply pw_below_drewN | apply below_drew1) | exact HB.out)))); have n2_ := Aside0.mk (below_step (by repeat (first | (with_reducible first | exact HB.out | apply below_alloc | apply pw_below_drewN | apply below_drew1) | exact HB.out)) hb); clear HO341; clear HB; have HO341 := n0_; have HO346 := n1_; have HB := n2_; clear n0_ n1_ n2_; clear hb ho39; obtain ⟨Ao40, co40, eo40⟩ := Kd.R_slice HO346.out; subst eo40) | ((with_reducible refine gate_callee (f := 17) rfl ?_); refine goesL_ (some 106) rfl rfl Try.func17 (by kernel_rfl) rfl #[.slice Ao40 y344.length co40, .string t337] rfl (by (try simp only [List.map_toArray, List.map_cons, List.map_nil]); first | done | rfl | (simp only [List.length_drop, List.length_take]; rfl)) ?_; (with_reducible refine (closure_Derives.calls _ _ y344 t337 t347 t348 _ ?side1 ?side2 A30.out).mono ?_); (case side1 => repeat (first | exact (Kd.R_reads' HO346.out).2.2 | (with_reducible refine Kd.C_alloc ?_ _) | (with_reducible refine Kd.C_drewN ?_ _) | (with_reducible refine Kd.C_drew ?_))); (case side2 => exact (Kd.R_reads' HO346.out).2.1); rintro e w41 ⟨rfl, hb⟩; refine ⟨_, rfl, ?_⟩; have n0_ := Aside0.mk (Kd.R_below (by (with_reducible repeat (first | apply Kd.R_alloc | apply Kd.R_drewN | apply Kd.R_drew)); exact HO341.out) hb); have n1_ := Aside0.mk (Kd.R_below (by (with_reducible repeat (first | apply Kd.R_alloc | apply Kd.R_drewN | apply Kd.R_drew)); exact HO346.out) hb); have n2_ := Aside0.mk (below_step (by repeat (first | (with_reducible first | exact HB.out | apply below_alloc | apply pw_below_drewN | apply below_drew1) | exact HB.out)) hb); clear HO341; clear HO346; clear HB; have HO341 := n0_; have HO346 := n1_; have HB := n2_; clear n0_ n1_ n2_; (try clear hb); (try clear hb2); (try clear hk); (try clear hi)))
                    go_ret
                    exact ⟨by first | rfl | (simp [errW_none, errW_some] <;> rfl) | (simp [*, errW_none, errW_some] <;> rfl), by repeat (first | (with_reducible first | exact HB.out | apply below_alloc | apply pw_below_drewN | apply below_drew1) | exact HB.out)⟩
                  · replace c33 := Bool.eq_false_iff.mpr c33
                    subst c33
                    have H1 : (some (t347 == (t329 == t330))) = some r := by rw [if_neg (show ¬ (false = true) by decide)] at H; exact H
                    clear H
                    have H := H1
                    clear H1
                    obtain rfl := Option.some.inj H
                    go_wp2_with (first | ((with_reducible refine gate_dst (N := 97) rfl ?_); refine Kd.R_lit Kd.string _ 9 ?hg (N := 97) ?hd (xs := ([t335] : List ByteArray)) (inner := [.string t335]) (ok := fun _ => True) (okp := fun _ => True) ?hr ?hp (fun _ hk => hk) trivial (Below.refl _ _) (Nat.le_refl _) (by simp) ?_; (case hd => rfl); (case hg => rfl); (case hr => first | (go_simp; done) | (go_simp; rfl)); (case hp => exact (Reps.one (show Kd.M Kd.string _ _ _ t335 [.string t335] from rfl) (Reps.none _ _))); intro v340 w42 ho43 hb hg_ hnew_; clear hg_ hnew_; (first | rw [← Ny339.out] at ho43 | (simp only [Int.reduceToNat] at ho43; rw [← Ny339.out] at ho43)); have n0_ := Aside0.mk (Kd.R_lower ho43 (below_size (by repeat (first | (with_reducible first | exact HB.out | apply below_alloc | apply pw_below_drewN | apply below_drew1) | exact HB.out)))); have n1_ := Aside0.mk (below_step (by repeat (first | (with_reducible first | exact HB.out | apply below_alloc | apply pw_below_drewN | apply below_drew1) | exact HB.out)) hb); clear HB; have HO341 := n0_; have HB := n1_; clear n0_ n1_; clear hb ho43; obtain ⟨Ao44, co44, eo44⟩ := Kd.R_slice HO341.out; subst eo44) | ((with_reducible refine gate_callee (f := 17) rfl ?_); refine goesL_ (some 99) rfl rfl Try.func17 (by kernel_rfl) rfl #[.slice Ao44 y339.length co44, .string t333] rfl (by (try simp only [List.map_toArray, List.map_cons, List.map_nil]); first | done | rfl | (simp only [List.length_drop, List.length_take]; rfl)) ?_; (with_reducible refine (closure_Derives.calls _ _ y339 t333 false t343 _ ?side1 ?side2 A29.out).mono ?_); (case side1 => repeat (first | exact (Kd.R_reads' HO341.out).2.2 | (with_reducible refine Kd.C_alloc ?_ _) | (with_reducible refine Kd.C_drewN ?_ _) | (with_reducible refine Kd.C_drew ?_))); (case side2 => exact (Kd.R_reads' HO341.out).2.1); rintro e w45 ⟨rfl, hb⟩; refine ⟨_, rfl, ?_⟩; have n0_ := Aside0.mk (Kd.R_below (by (with_reducible repeat (first | apply Kd.R_alloc | apply Kd.R_drewN | apply Kd.R_drew)); exact HO341.out) hb); have n1_ := Aside0.mk (below_step (by repeat (first | (with_reducible first | exact HB.out | apply below_alloc | apply pw_below_drewN | apply below_drew1) | exact HB.out)) hb); clear HO341; clear HB; have HO341 := n0_; have HB := n1_; clear n0_ n1_; (try clear hb); (try clear hb2); (try clear hk); (try clear hi)) | ((with_reducible refine gate_dst (N := 104) rfl ?_); refine Kd.R_lit Kd.string _ 9 ?hg (N := 104) ?hd (xs := ([t335] : List ByteArray)) (inner := [.string t335]) (ok := fun _ => True) (okp := fun _ => True) ?hr ?hp (fun _ hk => hk) trivial (Below.refl _ _) (Nat.le_refl _) (by simp) ?_; (case hd => rfl); (case hg => rfl); (case hr => first | (go_simp; done) | (go_simp; rfl)); (case hp => exact (Reps.one (show Kd.M Kd.string _ _ _ t335 [.string t335] from rfl) (Reps.none _ _))); intro v345 w46 ho47 hb hg_ hnew_; clear hg_ hnew_; (first | rw [← Ny344.out] at ho47 | (simp only [Int.reduceToNat] at ho47; rw [← Ny344.out] at ho47)); have n0_ := Aside0.mk (Kd.R_elder' (by (with_reducible repeat (first | apply Kd.R_alloc | apply Kd.R_drewN | apply Kd.R_drew)); exact HO341.out) (Kd.R_base ho47) hb); have n1_ := Aside0.mk (Kd.R_lower (Kd.R_new' ho47 (Kd.R_lt (by (with_reducible repeat (first | apply Kd.R_alloc | apply Kd.R_drewN | apply Kd.R_drew)); exact HO341.out))) (below_size (by repeat (first | (with_reducible first | exact HB.out | apply below_alloc | apply pw_below_drewN | apply below_drew1) | exact HB.out)))); have n2_ := Aside0.mk (below_step (by repeat (first | (with_reducible first | exact HB.out | apply below_alloc | apply pw_below_drewN | apply below_drew1) | exact HB.out)) hb); clear HO341; clear HB; have HO341 := n0_; have HO346 := n1_; have HB := n2_; clear n0_ n1_ n2_; clear hb ho47; obtain ⟨Ao48, co48, eo48⟩ := Kd.R_slice HO346.out; subst eo48) | ((with_reducible refine gate_callee (f := 17) rfl ?_); refine goesL_ (some 106) rfl rfl Try.func17 (by kernel_rfl) rfl #[.slice Ao48 y344.length co48, .string t337] rfl (by (try simp only [List.map_toArray, List.map_cons, List.map_nil]); first | done | rfl | (simp only [List.length_drop, List.length_take]; rfl)) ?_; (with_reducible refine (closure_Derives.calls _ _ y344 t337 t347 t348 _ ?side1 ?side2 A30.out).mono ?_); (case side1 => repeat (first | exact (Kd.R_reads' HO346.out).2.2 | (with_reducible refine Kd.C_alloc ?_ _) | (with_reducible refine Kd.C_drewN ?_ _) | (with_reducible refine Kd.C_drew ?_))); (case side2 => exact (Kd.R_reads' HO346.out).2.1); rintro e w49 ⟨rfl, hb⟩; refine ⟨_, rfl, ?_⟩; have n0_ := Aside0.mk (Kd.R_below (by (with_reducible repeat (first | apply Kd.R_alloc | apply Kd.R_drewN | apply Kd.R_drew)); exact HO341.out) hb); have n1_ := Aside0.mk (Kd.R_below (by (with_reducible repeat (first | apply Kd.R_alloc | apply Kd.R_drewN | apply Kd.R_drew)); exact HO346.out) hb); have n2_ := Aside0.mk (below_step (by repeat (first | (with_reducible first | exact HB.out | apply below_alloc | apply pw_below_drewN | apply below_drew1) | exact HB.out)) hb); clear HO341; clear HO346; clear HB; have HO341 := n0_; have HO346 := n1_; have HB := n2_; clear n0_ n1_ n2_; (try clear hb); (try clear hb2); (try clear hk); (try clear hi)))
                    go_ret
                    exact ⟨by first | rfl | (simp [errW_none, errW_some] <;> rfl) | (simp [*, errW_none, errW_some] <;> rfl), by repeat (first | (with_reducible first | exact HB.out | apply below_alloc | apply pw_below_drewN | apply below_drew1) | exact HB.out)⟩
                · rw [if_neg c32] at H
                  have c32b0 : (t348 == 0) = false := beq_eq_false_iff_ne.mpr c32
                  have c32b1 : (t348 != 0) = true := bne_iff_ne.mpr c32
                  obtain rfl := Option.some.inj H
                  go_wp2_with (first | ((with_reducible refine gate_dst (N := 97) rfl ?_); refine Kd.R_lit Kd.string _ 9 ?hg (N := 97) ?hd (xs := ([t335] : List ByteArray)) (inner := [.string t335]) (ok := fun _ => True) (okp := fun _ => True) ?hr ?hp (fun _ hk => hk) trivial (Below.refl _ _) (Nat.le_refl _) (by simp) ?_; (case hd => rfl); (case hg => rfl); (case hr => first | (go_simp; done) | (go_simp; rfl)); (case hp => exact (Reps.one (show Kd.M Kd.string _ _ _ t335 [.string t335] from rfl) (Reps.none _ _))); intro v340 w50 ho51 hb hg_ hnew_; clear hg_ hnew_; (first | rw [← Ny339.out] at ho51 | (simp only [Int.reduceToNat] at ho51; rw [← Ny339.out] at ho51)); have n0_ := Aside0.mk (Kd.R_lower ho51 (below_size (by repeat (first | (with_reducible first | exact HB.out | apply below_alloc | apply pw_below_drewN | apply below_drew1) | exact HB.out)))); have n1_ := Aside0.mk (below_step (by repeat (first | (with_reducible first | exact HB.out | apply below_alloc | apply pw_below_drewN | apply below_drew1) | exact HB.out)) hb); clear HB; have HO341 := n0_; have HB := n1_; clear n0_ n1_; clear hb ho51; obtain ⟨Ao52, co52, eo52⟩ := Kd.R_slice HO341.out; subst eo52) | ((with_reducible refine gate_callee (f := 17) rfl ?_); refine goesL_ (some 99) rfl rfl Try.func17 (by kernel_rfl) rfl #[.slice Ao52 y339.length co52, .string t333] rfl (by (try simp only [List.map_toArray, List.map_cons, List.map_nil]); first | done | rfl | (simp only [List.length_drop, List.length_take]; rfl)) ?_; (with_reducible refine (closure_Derives.calls _ _ y339 t333 t342 t343 _ ?side1 ?side2 A29.out).mono ?_); (case side1 => repeat (first | exact (Kd.R_reads' HO341.out).2.2 | (with_reducible refine Kd.C_alloc ?_ _) | (with_reducible refine Kd.C_drewN ?_ _) | (with_reducible refine Kd.C_drew ?_))); (case side2 => exact (Kd.R_reads' HO341.out).2.1); rintro e w53 ⟨rfl, hb⟩; refine ⟨_, rfl, ?_⟩; have n0_ := Aside0.mk (Kd.R_below (by (with_reducible repeat (first | apply Kd.R_alloc | apply Kd.R_drewN | apply Kd.R_drew)); exact HO341.out) hb); have n1_ := Aside0.mk (below_step (by repeat (first | (with_reducible first | exact HB.out | apply below_alloc | apply pw_below_drewN | apply below_drew1) | exact HB.out)) hb); clear HO341; clear HB; have HO341 := n0_; have HB := n1_; clear n0_ n1_; (try clear hb); (try clear hb2); (try clear hk); (try clear hi)) | ((with_reducible refine gate_dst (N := 104) rfl ?_); refine Kd.R_lit Kd.string _ 9 ?hg (N := 104) ?hd (xs := ([t335] : List ByteArray)) (inner := [.string t335]) (ok := fun _ => True) (okp := fun _ => True) ?hr ?hp (fun _ hk => hk) trivial (Below.refl _ _) (Nat.le_refl _) (by simp) ?_; (case hd => rfl); (case hg => rfl); (case hr => first | (go_simp; done) | (go_simp; rfl)); (case hp => exact (Reps.one (show Kd.M Kd.string _ _ _ t335 [.string t335] from rfl) (Reps.none _ _))); intro v345 w54 ho55 hb hg_ hnew_; clear hg_ hnew_; (first | rw [← Ny344.out] at ho55 | (simp only [Int.reduceToNat] at ho55; rw [← Ny344.out] at ho55)); have n0_ := Aside0.mk (Kd.R_elder' (by (with_reducible repeat (first | apply Kd.R_alloc | apply Kd.R_drewN | apply Kd.R_drew)); exact HO341.out) (Kd.R_base ho55) hb); have n1_ := Aside0.mk (Kd.R_lower (Kd.R_new' ho55 (Kd.R_lt (by (with_reducible repeat (first | apply Kd.R_alloc | apply Kd.R_drewN | apply Kd.R_drew)); exact HO341.out))) (below_size (by repeat (first | (with_reducible first | exact HB.out | apply below_alloc | apply pw_below_drewN | apply below_drew1) | exact HB.out)))); have n2_ := Aside0.mk (below_step (by repeat (first | (with_reducible first | exact HB.out | apply below_alloc | apply pw_below_drewN | apply below_drew1) | exact HB.out)) hb); clear HO341; clear HB; have HO341 := n0_; have HO346 := n1_; have HB := n2_; clear n0_ n1_ n2_; clear hb ho55; obtain ⟨Ao56, co56, eo56⟩ := Kd.R_slice HO346.out; subst eo56) | ((with_reducible refine gate_callee (f := 17) rfl ?_); refine goesL_ (some 106) rfl rfl Try.func17 (by kernel_rfl) rfl #[.slice Ao56 y344.length co56, .string t337] rfl (by (try simp only [List.map_toArray, List.map_cons, List.map_nil]); first | done | rfl | (simp only [List.length_drop, List.length_take]; rfl)) ?_; (with_reducible refine (closure_Derives.calls _ _ y344 t337 t347 t348 _ ?side1 ?side2 A30.out).mono ?_); (case side1 => repeat (first | exact (Kd.R_reads' HO346.out).2.2 | (with_reducible refine Kd.C_alloc ?_ _) | (with_reducible refine Kd.C_drewN ?_ _) | (with_reducible refine Kd.C_drew ?_))); (case side2 => exact (Kd.R_reads' HO346.out).2.1); rintro e w57 ⟨rfl, hb⟩; refine ⟨_, rfl, ?_⟩; have n0_ := Aside0.mk (Kd.R_below (by (with_reducible repeat (first | apply Kd.R_alloc | apply Kd.R_drewN | apply Kd.R_drew)); exact HO341.out) hb); have n1_ := Aside0.mk (Kd.R_below (by (with_reducible repeat (first | apply Kd.R_alloc | apply Kd.R_drewN | apply Kd.R_drew)); exact HO346.out) hb); have n2_ := Aside0.mk (below_step (by repeat (first | (with_reducible first | exact HB.out | apply below_alloc | apply pw_below_drewN | apply below_drew1) | exact HB.out)) hb); clear HO341; clear HO346; clear HB; have HO341 := n0_; have HO346 := n1_; have HB := n2_; clear n0_ n1_ n2_; (try clear hb); (try clear hb2); (try clear hk); (try clear hi)))
                  go_ret
                  exact ⟨by first | rfl | (simp [errW_none, errW_some] <;> rfl) | (simp [*, errW_none, errW_some] <;> rfl), by repeat (first | (with_reducible first | exact HB.out | apply below_alloc | apply pw_below_drewN | apply below_drew1) | exact HB.out)⟩
              · rw [if_neg c31] at H
                have c31b0 : (t343 == 0) = false := beq_eq_false_iff_ne.mpr c31
                have c31b1 : (t343 != 0) = true := bne_iff_ne.mpr c31
                obtain rfl := Option.some.inj H
                go_wp2_with (first | ((with_reducible refine gate_dst (N := 97) rfl ?_); refine Kd.R_lit Kd.string _ 9 ?hg (N := 97) ?hd (xs := ([t335] : List ByteArray)) (inner := [.string t335]) (ok := fun _ => True) (okp := fun _ => True) ?hr ?hp (fun _ hk => hk) trivial (Below.refl _ _) (Nat.le_refl _) (by simp) ?_; (case hd => rfl); (case hg => rfl); (case hr => first | (go_simp; done) | (go_simp; rfl)); (case hp => exact (Reps.one (show Kd.M Kd.string _ _ _ t335 [.string t335] from rfl) (Reps.none _ _))); intro v340 w58 ho59 hb hg_ hnew_; clear hg_ hnew_; (first | rw [← Ny339.out] at ho59 | (simp only [Int.reduceToNat] at ho59; rw [← Ny339.out] at ho59)); have n0_ := Aside0.mk (Kd.R_lower ho59 (below_size (by repeat (first | (with_reducible first | exact HB.out | apply below_alloc | apply pw_below_drewN | apply below_drew1) | exact HB.out)))); have n1_ := Aside0.mk (below_step (by repeat (first | (with_reducible first | exact HB.out | apply below_alloc | apply pw_below_drewN | apply below_drew1) | exact HB.out)) hb); clear HB; have HO341 := n0_; have HB := n1_; clear n0_ n1_; clear hb ho59; obtain ⟨Ao60, co60, eo60⟩ := Kd.R_slice HO341.out; subst eo60) | ((with_reducible refine gate_callee (f := 17) rfl ?_); refine goesL_ (some 99) rfl rfl Try.func17 (by kernel_rfl) rfl #[.slice Ao60 y339.length co60, .string t333] rfl (by (try simp only [List.map_toArray, List.map_cons, List.map_nil]); first | done | rfl | (simp only [List.length_drop, List.length_take]; rfl)) ?_; (with_reducible refine (closure_Derives.calls _ _ y339 t333 t342 t343 _ ?side1 ?side2 A29.out).mono ?_); (case side1 => repeat (first | exact (Kd.R_reads' HO341.out).2.2 | (with_reducible refine Kd.C_alloc ?_ _) | (with_reducible refine Kd.C_drewN ?_ _) | (with_reducible refine Kd.C_drew ?_))); (case side2 => exact (Kd.R_reads' HO341.out).2.1); rintro e w61 ⟨rfl, hb⟩; refine ⟨_, rfl, ?_⟩; have n0_ := Aside0.mk (Kd.R_below (by (with_reducible repeat (first | apply Kd.R_alloc | apply Kd.R_drewN | apply Kd.R_drew)); exact HO341.out) hb); have n1_ := Aside0.mk (below_step (by repeat (first | (with_reducible first | exact HB.out | apply below_alloc | apply pw_below_drewN | apply below_drew1) | exact HB.out)) hb); clear HO341; clear HB; have HO341 := n0_; have HB := n1_; clear n0_ n1_; (try clear hb); (try clear hb2); (try clear hk); (try clear hi)) | ((with_reducible refine gate_dst (N := 104) rfl ?_); refine Kd.R_lit Kd.string _ 9 ?hg (N := 104) ?hd (xs := ([t335] : List ByteArray)) (inner := [.string t335]) (ok := fun _ => True) (okp := fun _ => True) ?hr ?hp (fun _ hk => hk) trivial (Below.refl _ _) (Nat.le_refl _) (by simp) ?_; (case hd => rfl); (case hg => rfl); (case hr => first | (go_simp; done) | (go_simp; rfl)); (case hp => exact (Reps.one (show Kd.M Kd.string _ _ _ t335 [.string t335] from rfl) (Reps.none _ _))); intro v345 w62 ho63 hb hg_ hnew_; clear hg_ hnew_; (first | rw [← Ny344.out] at ho63 | (simp only [Int.reduceToNat] at ho63; rw [← Ny344.out] at ho63)); have n0_ := Aside0.mk (Kd.R_elder' (by (with_reducible repeat (first | apply Kd.R_alloc | apply Kd.R_drewN | apply Kd.R_drew)); exact HO341.out) (Kd.R_base ho63) hb); have n1_ := Aside0.mk (Kd.R_lower (Kd.R_new' ho63 (Kd.R_lt (by (with_reducible repeat (first | apply Kd.R_alloc | apply Kd.R_drewN | apply Kd.R_drew)); exact HO341.out))) (below_size (by repeat (first | (with_reducible first | exact HB.out | apply below_alloc | apply pw_below_drewN | apply below_drew1) | exact HB.out)))); have n2_ := Aside0.mk (below_step (by repeat (first | (with_reducible first | exact HB.out | apply below_alloc | apply pw_below_drewN | apply below_drew1) | exact HB.out)) hb); clear HO341; clear HB; have HO341 := n0_; have HO346 := n1_; have HB := n2_; clear n0_ n1_ n2_; clear hb ho63; obtain ⟨Ao64, co64, eo64⟩ := Kd.R_slice HO346.out; subst eo64) | ((with_reducible refine gate_callee (f := 17) rfl ?_); refine goesL_ (some 106) rfl rfl Try.func17 (by kernel_rfl) rfl #[.slice Ao64 y344.length co64, .string t337] rfl (by (try simp only [List.map_toArray, List.map_cons, List.map_nil]); first | done | rfl | (simp only [List.length_drop, List.length_take]; rfl)) ?_; (with_reducible refine (closure_Derives.calls _ _ y344 t337 t347 t348 _ ?side1 ?side2 A30.out).mono ?_); (case side1 => repeat (first | exact (Kd.R_reads' HO346.out).2.2 | (with_reducible refine Kd.C_alloc ?_ _) | (with_reducible refine Kd.C_drewN ?_ _) | (with_reducible refine Kd.C_drew ?_))); (case side2 => exact (Kd.R_reads' HO346.out).2.1); rintro e w65 ⟨rfl, hb⟩; refine ⟨_, rfl, ?_⟩; have n0_ := Aside0.mk (Kd.R_below (by (with_reducible repeat (first | apply Kd.R_alloc | apply Kd.R_drewN | apply Kd.R_drew)); exact HO341.out) hb); have n1_ := Aside0.mk (Kd.R_below (by (with_reducible repeat (first | apply Kd.R_alloc | apply Kd.R_drewN | apply Kd.R_drew)); exact HO346.out) hb); have n2_ := Aside0.mk (below_step (by repeat (first | (with_reducible first | exact HB.out | apply below_alloc | apply pw_below_drewN | apply below_drew1) | exact HB.out)) hb); clear HO341; clear HO346; clear HB; have HO341 := n0_; have HO346 := n1_; have HB := n2_; clear n0_ n1_ n2_; (try clear hb); (try clear hb2); (try clear hk); (try clear hi)))
                go_ret
                exact ⟨by first | rfl | (simp [errW_none, errW_some] <;> rfl) | (simp [*, errW_none, errW_some] <;> rfl), by repeat (first | (with_reducible first | exact HB.out | apply below_alloc | apply pw_below_drewN | apply below_drew1) | exact HB.out)⟩

/-- THE ONE PURE STATEMENT of letterlocklaw6_RegressKeys: yours. -/
def letterlocklaw6_RegressKeys.Pure : Prop := ∀ (a0 : Int) (a1 : Int) (a2 : Int), (Lit.int .u64 a0).wf = true → (Lit.int .i64 a1).wf = true → (Lit.int .i64 a2).wf = true → ∃ k, letterlocklaw6_RegressKeys.f k a0 a1 a2 = some true
theorem letterlocklaw6_RegressKeys.walk (P : letterlocklaw6_RegressKeys.Pure) (a0 : Int) (a1 : Int) (a2 : Int) (w : World) (w0 : (Lit.int .u64 a0).wf = true) (w1 : (Lit.int .i64 a1).wf = true) (w2 : (Lit.int .i64 a2).wf = true) :
    Calls Try.prog 12 #[.int .u64 a0, .int .i64 a1, .int .i64 a2] w fun e w' => e = .returned (.bool true) ∧ Below w.heap.size w w' := by
  obtain ⟨k, h⟩ := P a0 a1 a2 w0 w1 w2
  refine (letterlocklaw6_RegressKeys.calls k a0 a1 a2 true w h).mono ?_
  rintro e w' ⟨rfl, hd⟩
  exact ⟨rfl, hd⟩

-- a stub: function 21 (closure_Apart)

end Go.Proofs.Ytnieihhnchefdaa.PA
