-- printed by a program of this session (a copy of print.py that takes stubs) out of the translation; Lean checks it
import Derived.Test.YtpgbhgpjfjeomaaPAx0
import Derived.Test.YtpgbhgpjfjeomaaPAx1
import Derived.Test.YtpgbhgpjfjeomaaPAx4
import Derived.Test.YtpgbhgpjfjeomaaPAx5
import Derived.Test.YtpgbhgpjfjeomaaPAx6
namespace Go.Proofs.Ytpgbhgpjfjeomaa.PA
open Go.RowKit Go.Proofs.YtpgbhgpjfjeomaaW.PrintWords Go.Proofs.YtpgbhgpjfjeomaaW.PrintLast Go.Proofs.YtpgbhgpjfjeomaaW.PrintMore
attribute [local go_sem] max2_int min2_int max_two min_two max_three min_three max_four min_four   -- for this text's walks alone
set_option linter.unusedVariables false
set_option linter.unusedSimpArgs false

/-! ### letterlocklaw6_RegressErrs: function 7 -/
mutual
def letterlocklaw6_RegressErrs.j0 : Nat → List Int → ByteArray → Int → Int → Bool → Bool → Option (Bool)
  | 0, _, _, _, _, _, _ => none
  | k + 1, x0, x1, x2, x3, x9, x28 => if x28 = true then (some x9) else ((letterlocklaw6_grown.f k x0).bind fun t297 => ((regress_State.f k t297 x2).bind fun bt298 => ((regress_Back.f k t297 x3).bind fun bt300 => (if x2 < 0 then (if (true != (bt298.2 == 9)) = true then (letterlocklaw6_RegressErrs.j1 k x1 x2 x3 t297 bt298.1 bt298.2 true) else (if ((decide (x3 < 0)) != (bt300.2 == 1)) = true then (letterlocklaw6_RegressErrs.j1 k x1 x2 x3 t297 bt298.1 bt298.2 true) else (if bt298.2 = 0 then (if bt300.2 = 0 then (letterlocklaw6_RegressErrs.j1 k x1 x2 x3 t297 bt298.1 bt298.2 false) else (letterlocklaw6_RegressErrs.j1 k x1 x2 x3 t297 bt298.1 bt298.2 (bt300.1.toList != ([] : List UInt8)))) else (if bt298.1.toList = ([] : List UInt8) then (if bt300.2 = 0 then (letterlocklaw6_RegressErrs.j1 k x1 x2 x3 t297 bt298.1 bt298.2 false) else (letterlocklaw6_RegressErrs.j1 k x1 x2 x3 t297 bt298.1 bt298.2 (bt300.1.toList != ([] : List UInt8)))) else (letterlocklaw6_RegressErrs.j1 k x1 x2 x3 t297 bt298.1 bt298.2 true))))) else (if ((decide (x2 > 7)) != (bt298.2 == 9)) = true then (letterlocklaw6_RegressErrs.j1 k x1 x2 x3 t297 bt298.1 bt298.2 true) else (if ((decide (x3 < 0)) != (bt300.2 == 1)) = true then (letterlocklaw6_RegressErrs.j1 k x1 x2 x3 t297 bt298.1 bt298.2 true) else (if bt298.2 = 0 then (if bt300.2 = 0 then (letterlocklaw6_RegressErrs.j1 k x1 x2 x3 t297 bt298.1 bt298.2 false) else (letterlocklaw6_RegressErrs.j1 k x1 x2 x3 t297 bt298.1 bt298.2 (bt300.1.toList != ([] : List UInt8)))) else (if bt298.1.toList = ([] : List UInt8) then (if bt300.2 = 0 then (letterlocklaw6_RegressErrs.j1 k x1 x2 x3 t297 bt298.1 bt298.2 false) else (letterlocklaw6_RegressErrs.j1 k x1 x2 x3 t297 bt298.1 bt298.2 (bt300.1.toList != ([] : List UInt8)))) else (letterlocklaw6_RegressErrs.j1 k x1 x2 x3 t297 bt298.1 bt298.2 true)))))))))
def letterlocklaw6_RegressErrs.j1 : Nat → ByteArray → Int → Int → ByteArray → ByteArray → Int → Bool → Option (Bool)
  | 0, _, _, _, _, _, _, _ => none
  | k + 1, x1, x2, x3, x10, x11, x12, x75 => if x75 = true then (some false) else (if x12 = 0 then (if x2 = 7 then (letterlocklaw6_RegressErrs.j2 k x1 x2 x3 (x11.toList != x10.toList)) else (letterlocklaw6_RegressErrs.j2 k x1 x2 x3 false)) else (letterlocklaw6_RegressErrs.j2 k x1 x2 x3 false))
def letterlocklaw6_RegressErrs.j2 : Nat → ByteArray → Int → Int → Bool → Option (Bool)
  | 0, _, _, _, _ => none
  | k + 1, x1, x2, x3, x86 => if x86 = true then (some false) else ((term_Kind.f x1).bind fun t302 => (if t302 = 0 then ((regress_State.f k x1 x2).bind fun bt303 => ((regress_Back.f k x1 x3).bind fun bt305 => ((regress_Key.f k x1).bind fun bt307 => (if bt303.2 = 1 then (if bt305.2 = 1 then (if bt307.2 = 1 then (if bt303.1.toList = ([] : List UInt8) then (if bt305.1.toList = ([] : List UInt8) then (some (bt307.1.toList == ([] : List UInt8))) else (some false)) else (some false)) else (some false)) else (some false)) else (some false))))) else (some true)))
end
def letterlocklaw6_RegressErrs.f (k : Nat) (l0 : List Int) (a1 : ByteArray) (a2 : Int) (a3 : Int) : Option (Bool) := (letterlocklaw6_shown.f k).bind fun t296 => (if t296 = true then (letterlocklaw6_RegressErrs.j0 k l0 a1 a2 a3 t296 (decide ((a1.size : Int) > 1000))) else (letterlocklaw6_RegressErrs.j0 k l0 a1 a2 a3 t296 true))
theorem letterlocklaw6_RegressErrs.mono_l : ∀ k, (∀ y0 y1 y2 y3 y4 y5, LeO (letterlocklaw6_RegressErrs.j0 k y0 y1 y2 y3 y4 y5) (letterlocklaw6_RegressErrs.j0 (k + 1) y0 y1 y2 y3 y4 y5)) ∧ (∀ y0 y1 y2 y3 y4 y5 y6, LeO (letterlocklaw6_RegressErrs.j1 k y0 y1 y2 y3 y4 y5 y6) (letterlocklaw6_RegressErrs.j1 (k + 1) y0 y1 y2 y3 y4 y5 y6)) ∧ (∀ y0 y1 y2 y3, LeO (letterlocklaw6_RegressErrs.j2 k y0 y1 y2 y3) (letterlocklaw6_RegressErrs.j2 (k + 1) y0 y1 y2 y3))
  | 0 => ⟨fun _ _ _ _ _ _ r h => by simp [letterlocklaw6_RegressErrs.j0] at h, fun _ _ _ _ _ _ _ r h => by simp [letterlocklaw6_RegressErrs.j1] at h, fun _ _ _ _ r h => by simp [letterlocklaw6_RegressErrs.j2] at h⟩
  | k + 1 => by
    obtain ⟨ih0, ih1, ih2⟩ := letterlocklaw6_RegressErrs.mono_l k
    refine ⟨?_, ?_, ?_⟩
    · intro y0 y1 y2 y3 y4 y5
      unfold letterlocklaw6_RegressErrs.j0
      repeat' first
      | (with_reducible exact ih0 _ _ _ _ _ _)
      | (with_reducible exact ih1 _ _ _ _ _ _ _)
      | (with_reducible exact ih2 _ _ _ _)
      | (with_reducible exact letterlocklaw6_grown.mono _ _)
      | (with_reducible exact letterlocklaw6_shown.mono _)
      | (with_reducible exact regress_Back.mono _ _ _)
      | (with_reducible exact regress_Key.mono _ _)
      | (with_reducible exact regress_State.mono _ _ _)
      | (with_reducible exact LeO.refl _)
      | (with_reducible exact LeO.none _)
      | (with_reducible refine LeO.ite ?_ ?_)
      | (with_reducible refine LeO.bind ?_ (fun _ => ?_))
      | exact ih0 _ _ _ _ _ _
      | exact ih1 _ _ _ _ _ _ _
      | exact ih2 _ _ _ _
      | exact letterlocklaw6_grown.mono _ _
      | exact letterlocklaw6_shown.mono _
      | exact regress_Back.mono _ _ _
      | exact regress_Key.mono _ _
      | exact regress_State.mono _ _ _
      | exact LeO.none _
      | refine LeO.ite ?_ ?_
      | refine LeO.bind ?_ (fun _ => ?_)
    · intro y0 y1 y2 y3 y4 y5 y6
      unfold letterlocklaw6_RegressErrs.j1
      repeat' first
      | (with_reducible exact ih0 _ _ _ _ _ _)
      | (with_reducible exact ih1 _ _ _ _ _ _ _)
      | (with_reducible exact ih2 _ _ _ _)
      | (with_reducible exact letterlocklaw6_grown.mono _ _)
      | (with_reducible exact letterlocklaw6_shown.mono _)
      | (with_reducible exact regress_Back.mono _ _ _)
      | (with_reducible exact regress_Key.mono _ _)
      | (with_reducible exact regress_State.mono _ _ _)
      | (with_reducible exact LeO.refl _)
      | (with_reducible exact LeO.none _)
      | (with_reducible refine LeO.ite ?_ ?_)
      | (with_reducible refine LeO.bind ?_ (fun _ => ?_))
      | exact ih0 _ _ _ _ _ _
      | exact ih1 _ _ _ _ _ _ _
      | exact ih2 _ _ _ _
      | exact letterlocklaw6_grown.mono _ _
      | exact letterlocklaw6_shown.mono _
      | exact regress_Back.mono _ _ _
      | exact regress_Key.mono _ _
      | exact regress_State.mono _ _ _
      | exact LeO.none _
      | refine LeO.ite ?_ ?_
      | refine LeO.bind ?_ (fun _ => ?_)
    · intro y0 y1 y2 y3
      unfold letterlocklaw6_RegressErrs.j2
      repeat' first
      | (with_reducible exact ih0 _ _ _ _ _ _)
      | (with_reducible exact ih1 _ _ _ _ _ _ _)
      | (with_reducible exact ih2 _ _ _ _)
      | (with_reducible exact letterlocklaw6_grown.mono _ _)
      | (with_reducible exact letterlocklaw6_shown.mono _)
      | (with_reducible exact regress_Back.mono _ _ _)
      | (with_reducible exact regress_Key.mono _ _)
      | (with_reducible exact regress_State.mono _ _ _)
      | (with_reducible exact LeO.refl _)
      | (with_reducible exact LeO.none _)
      | (with_reducible refine LeO.ite ?_ ?_)
      | (with_reducible refine LeO.bind ?_ (fun _ => ?_))
      | exact ih0 _ _ _ _ _ _
      | exact ih1 _ _ _ _ _ _ _
      | exact ih2 _ _ _ _
      | exact letterlocklaw6_grown.mono _ _
      | exact letterlocklaw6_shown.mono _
      | exact regress_Back.mono _ _ _
      | exact regress_Key.mono _ _
      | exact regress_State.mono _ _ _
      | exact LeO.none _
      | refine LeO.ite ?_ ?_
      | refine LeO.bind ?_ (fun _ => ?_)
theorem letterlocklaw6_RegressErrs.mono : ∀ a0 a1 a2 a3 k, LeO (letterlocklaw6_RegressErrs.f k a0 a1 a2 a3) (letterlocklaw6_RegressErrs.f (k + 1) a0 a1 a2 a3) := by
  intro a0 a1 a2 a3 k
  obtain ⟨ih0, ih1, ih2⟩ := letterlocklaw6_RegressErrs.mono_l k
  unfold letterlocklaw6_RegressErrs.f
  repeat' first
      | (with_reducible exact ih0 _ _ _ _ _ _)
      | (with_reducible exact ih1 _ _ _ _ _ _ _)
      | (with_reducible exact ih2 _ _ _ _)
      | (with_reducible exact letterlocklaw6_grown.mono _ _)
      | (with_reducible exact letterlocklaw6_shown.mono _)
      | (with_reducible exact regress_Back.mono _ _ _)
      | (with_reducible exact regress_Key.mono _ _)
      | (with_reducible exact regress_State.mono _ _ _)
      | (with_reducible exact LeO.refl _)
      | (with_reducible exact LeO.none _)
      | (with_reducible refine LeO.ite ?_ ?_)
      | (with_reducible refine LeO.bind ?_ (fun _ => ?_))
      | exact ih0 _ _ _ _ _ _
      | exact ih1 _ _ _ _ _ _ _
      | exact ih2 _ _ _ _
      | exact letterlocklaw6_grown.mono _ _
      | exact letterlocklaw6_shown.mono _
      | exact regress_Back.mono _ _ _
      | exact regress_Key.mono _ _
      | exact regress_State.mono _ _ _
      | exact LeO.none _
      | refine LeO.ite ?_ ?_
      | refine LeO.bind ?_ (fun _ => ?_)
set_option maxHeartbeats 8000000 in
set_option maxRecDepth 100000 in
theorem letterlocklaw6_RegressErrs.calls (k : Nat) (A0 : Option Addr) (c0 : Nat) (l0 : List Int) (a1 : ByteArray) (a2 : Int) (a3 : Int) (r : Bool) (w : World) (hr0 : Kd.C (Kd.int .i64) w A0 l0.length l0) (hc0 : l0.length ≤ c0) (h : letterlocklaw6_RegressErrs.f k l0 a1 a2 a3 = some r) :
    Calls Try.prog 7 #[.slice A0 l0.length c0, .string a1, .int .i64 a2, .int .i64 a3] w fun e w' => e = .returned (.bool r) ∧ Below w.heap.size w w' := by
  have HR0 := Aside0.mk hr0
  have HC0 := Aside0.mk hc0
  clear hr0 hc0
  have HB := Aside0.mk (Below.refl w.heap.size w)
  have H : ((letterlocklaw6_shown.f k).bind fun t296 => (if t296 = true then (letterlocklaw6_RegressErrs.j0 k l0 a1 a2 a3 t296 (decide ((a1.size : Int) > 1000))) else (letterlocklaw6_RegressErrs.j0 k l0 a1 a2 a3 t296 true))) = some r := h
  clear h
  replace H := Option.bind_eq_some_iff.mp H
  obtain ⟨t296, A50, H⟩ := H
  replace H : (if t296 = true then (letterlocklaw6_RegressErrs.j0 k l0 a1 a2 a3 t296 (decide ((a1.size : Int) > 1000))) else (letterlocklaw6_RegressErrs.j0 k l0 a1 a2 a3 t296 true)) = some r := H
  have A5 := Aside0.mk A50
  clear A50
  have HC6 := Aside0.mk H
  clear H
  go_enter Try.func7, Try.ntmps7
  go_upto_region 2 with (first | ((with_reducible refine gate_callee (f := 9) rfl ?_); refine goesL_ (some 21) rfl rfl Try.func9 (by kernel_rfl) rfl #[] rfl (by (try simp only [List.map_toArray, List.map_cons, List.map_nil]); first | done | rfl | (simp only [List.length_drop, List.length_take]; rfl)) ?_; (with_reducible refine (letterlocklaw6_shown.calls k  t296 _ A5.out).mono ?_); rintro e w7 ⟨rfl, hb⟩; refine ⟨_, rfl, ?_⟩; have n0_ := Aside0.mk (below_step (by repeat (first | (with_reducible first | exact HB.out | apply below_alloc | apply pw_below_drewN | apply below_drew1) | exact HB.out)) hb); clear HB; have HB := n0_; clear n0_; (try clear hb); (try clear hb2); (try clear hk); (try clear hi)))
  (try simp only [Act.put, List.setIfInBounds_toArray, List.set_cons_zero, List.set_cons_succ])
  go_cut [28] (fun v28 wc => ∃ (kq : Nat) (x28_5 : Bool), v28 = .bool x28_5 ∧ Aside0 (letterlocklaw6_RegressErrs.j0 kq l0 a1 a2 a3 t296 x28_5 = some r) ∧ Aside0 (kq ≤ k) ∧ Aside0 (Below w.heap.size w wc))
  case first =>
    have H := HC6.out
    clear HC6
    by_cases c8 : t296 = true
    · subst c8
      have H1 : (letterlocklaw6_RegressErrs.j0 k l0 a1 a2 a3 true (decide ((a1.size : Int) > 1000))) = some r := by rw [if_pos rfl] at H; exact H
      clear H
      have H := H1
      clear H1
      have H' := Aside0.mk H
      clear H
      go_wp2
      go_meet
      case rel => exact ⟨_, (decide ((a1.size : Int) > 1000)), (by first | rfl | (simp; done) | (simp [*]; done)), H', ⟨by first | omega | exact Nat.le_refl _⟩, ⟨by repeat (first | (with_reducible first | exact HB.out | apply below_alloc | apply pw_below_drewN | apply below_drew1) | exact HB.out)⟩⟩
    · replace c8 := Bool.eq_false_iff.mpr c8
      subst c8
      have H1 : (letterlocklaw6_RegressErrs.j0 k l0 a1 a2 a3 false true) = some r := by rw [if_neg (show ¬ (false = true) by decide)] at H; exact H
      clear H
      have H := H1
      clear H1
      have H' := Aside0.mk H
      clear H
      go_wp2
      go_meet
      case rel => exact ⟨_, (true), (by first | rfl | (simp; done) | (simp [*]; done)), H', ⟨by first | omega | exact Nat.le_refl _⟩, ⟨by repeat (first | (with_reducible first | exact HB.out | apply below_alloc | apply pw_below_drewN | apply below_drew1) | exact HB.out)⟩⟩
  case rest =>
    clear HC6
    try clear p2
    try clear c7
    try clear c8
    obtain ⟨kq, x28_5, rfl, HA, HJ5, HB⟩ := hcut
    cases kq with
    | zero => exact absurd HA.out (by simp [letterlocklaw6_RegressErrs.j0])
    | succ kj5 =>
      have H := HA.out
      clear HA
      simp only [letterlocklaw6_RegressErrs.j0] at H
      by_cases c9 : x28_5 = true
      · subst c9
        have H1 : (some t296) = some r := by rw [if_pos rfl] at H; exact H
        clear H
        have H := H1
        clear H1
        obtain rfl := Option.some.inj H
        go_wp2
        go_ret
        exact ⟨by first | rfl | (simp [errW_none, errW_some] <;> rfl) | (simp [*, errW_none, errW_some] <;> rfl), by repeat (first | (with_reducible first | exact HB.out | apply below_alloc | apply pw_below_drewN | apply below_drew1) | exact HB.out)⟩
      · replace c9 := Bool.eq_false_iff.mpr c9
        subst c9
        have H1 : ((letterlocklaw6_grown.f kj5 l0).bind fun t297 => ((regress_State.f kj5 t297 a2).bind fun bt298 => ((regress_Back.f kj5 t297 a3).bind fun bt300 => (if a2 < 0 then (if (true != (bt298.2 == 9)) = true then (letterlocklaw6_RegressErrs.j1 kj5 a1 a2 a3 t297 bt298.1 bt298.2 true) else (if ((decide (a3 < 0)) != (bt300.2 == 1)) = true then (letterlocklaw6_RegressErrs.j1 kj5 a1 a2 a3 t297 bt298.1 bt298.2 true) else (if bt298.2 = 0 then (if bt300.2 = 0 then (letterlocklaw6_RegressErrs.j1 kj5 a1 a2 a3 t297 bt298.1 bt298.2 false) else (letterlocklaw6_RegressErrs.j1 kj5 a1 a2 a3 t297 bt298.1 bt298.2 (bt300.1.toList != ([] : List UInt8)))) else (if bt298.1.toList = ([] : List UInt8) then (if bt300.2 = 0 then (letterlocklaw6_RegressErrs.j1 kj5 a1 a2 a3 t297 bt298.1 bt298.2 false) else (letterlocklaw6_RegressErrs.j1 kj5 a1 a2 a3 t297 bt298.1 bt298.2 (bt300.1.toList != ([] : List UInt8)))) else (letterlocklaw6_RegressErrs.j1 kj5 a1 a2 a3 t297 bt298.1 bt298.2 true))))) else (if ((decide (a2 > 7)) != (bt298.2 == 9)) = true then (letterlocklaw6_RegressErrs.j1 kj5 a1 a2 a3 t297 bt298.1 bt298.2 true) else (if ((decide (a3 < 0)) != (bt300.2 == 1)) = true then (letterlocklaw6_RegressErrs.j1 kj5 a1 a2 a3 t297 bt298.1 bt298.2 true) else (if bt298.2 = 0 then (if bt300.2 = 0 then (letterlocklaw6_RegressErrs.j1 kj5 a1 a2 a3 t297 bt298.1 bt298.2 false) else (letterlocklaw6_RegressErrs.j1 kj5 a1 a2 a3 t297 bt298.1 bt298.2 (bt300.1.toList != ([] : List UInt8)))) else (if bt298.1.toList = ([] : List UInt8) then (if bt300.2 = 0 then (letterlocklaw6_RegressErrs.j1 kj5 a1 a2 a3 t297 bt298.1 bt298.2 false) else (letterlocklaw6_RegressErrs.j1 kj5 a1 a2 a3 t297 bt298.1 bt298.2 (bt300.1.toList != ([] : List UInt8)))) else (letterlocklaw6_RegressErrs.j1 kj5 a1 a2 a3 t297 bt298.1 bt298.2 true))))))))) = some r := by rw [if_neg (show ¬ (false = true) by decide)] at H; exact H
        clear H
        have H := H1
        clear H1
        replace H := Option.bind_eq_some_iff.mp H
        obtain ⟨t297, A100, H⟩ := H
        replace H : ((regress_State.f kj5 t297 a2).bind fun bt298 => ((regress_Back.f kj5 t297 a3).bind fun bt300 => (if a2 < 0 then (if (true != (bt298.2 == 9)) = true then (letterlocklaw6_RegressErrs.j1 kj5 a1 a2 a3 t297 bt298.1 bt298.2 true) else (if ((decide (a3 < 0)) != (bt300.2 == 1)) = true then (letterlocklaw6_RegressErrs.j1 kj5 a1 a2 a3 t297 bt298.1 bt298.2 true) else (if bt298.2 = 0 then (if bt300.2 = 0 then (letterlocklaw6_RegressErrs.j1 kj5 a1 a2 a3 t297 bt298.1 bt298.2 false) else (letterlocklaw6_RegressErrs.j1 kj5 a1 a2 a3 t297 bt298.1 bt298.2 (bt300.1.toList != ([] : List UInt8)))) else (if bt298.1.toList = ([] : List UInt8) then (if bt300.2 = 0 then (letterlocklaw6_RegressErrs.j1 kj5 a1 a2 a3 t297 bt298.1 bt298.2 false) else (letterlocklaw6_RegressErrs.j1 kj5 a1 a2 a3 t297 bt298.1 bt298.2 (bt300.1.toList != ([] : List UInt8)))) else (letterlocklaw6_RegressErrs.j1 kj5 a1 a2 a3 t297 bt298.1 bt298.2 true))))) else (if ((decide (a2 > 7)) != (bt298.2 == 9)) = true then (letterlocklaw6_RegressErrs.j1 kj5 a1 a2 a3 t297 bt298.1 bt298.2 true) else (if ((decide (a3 < 0)) != (bt300.2 == 1)) = true then (letterlocklaw6_RegressErrs.j1 kj5 a1 a2 a3 t297 bt298.1 bt298.2 true) else (if bt298.2 = 0 then (if bt300.2 = 0 then (letterlocklaw6_RegressErrs.j1 kj5 a1 a2 a3 t297 bt298.1 bt298.2 false) else (letterlocklaw6_RegressErrs.j1 kj5 a1 a2 a3 t297 bt298.1 bt298.2 (bt300.1.toList != ([] : List UInt8)))) else (if bt298.1.toList = ([] : List UInt8) then (if bt300.2 = 0 then (letterlocklaw6_RegressErrs.j1 kj5 a1 a2 a3 t297 bt298.1 bt298.2 false) else (letterlocklaw6_RegressErrs.j1 kj5 a1 a2 a3 t297 bt298.1 bt298.2 (bt300.1.toList != ([] : List UInt8)))) else (letterlocklaw6_RegressErrs.j1 kj5 a1 a2 a3 t297 bt298.1 bt298.2 true)))))))) = some r := H
        have A10 := Aside0.mk A100
        clear A100
        replace H := Option.bind_eq_some_iff.mp H
        obtain ⟨⟨t298, t299⟩, A110, H⟩ := H
        replace H : ((regress_Back.f kj5 t297 a3).bind fun bt300 => (if a2 < 0 then (if (true != (t299 == 9)) = true then (letterlocklaw6_RegressErrs.j1 kj5 a1 a2 a3 t297 t298 t299 true) else (if ((decide (a3 < 0)) != (bt300.2 == 1)) = true then (letterlocklaw6_RegressErrs.j1 kj5 a1 a2 a3 t297 t298 t299 true) else (if t299 = 0 then (if bt300.2 = 0 then (letterlocklaw6_RegressErrs.j1 kj5 a1 a2 a3 t297 t298 t299 false) else (letterlocklaw6_RegressErrs.j1 kj5 a1 a2 a3 t297 t298 t299 (bt300.1.toList != ([] : List UInt8)))) else (if t298.toList = ([] : List UInt8) then (if bt300.2 = 0 then (letterlocklaw6_RegressErrs.j1 kj5 a1 a2 a3 t297 t298 t299 false) else (letterlocklaw6_RegressErrs.j1 kj5 a1 a2 a3 t297 t298 t299 (bt300.1.toList != ([] : List UInt8)))) else (letterlocklaw6_RegressErrs.j1 kj5 a1 a2 a3 t297 t298 t299 true))))) else (if ((decide (a2 > 7)) != (t299 == 9)) = true then (letterlocklaw6_RegressErrs.j1 kj5 a1 a2 a3 t297 t298 t299 true) else (if ((decide (a3 < 0)) != (bt300.2 == 1)) = true then (letterlocklaw6_RegressErrs.j1 kj5 a1 a2 a3 t297 t298 t299 true) else (if t299 = 0 then (if bt300.2 = 0 then (letterlocklaw6_RegressErrs.j1 kj5 a1 a2 a3 t297 t298 t299 false) else (letterlocklaw6_RegressErrs.j1 kj5 a1 a2 a3 t297 t298 t299 (bt300.1.toList != ([] : List UInt8)))) else (if t298.toList = ([] : List UInt8) then (if bt300.2 = 0 then (letterlocklaw6_RegressErrs.j1 kj5 a1 a2 a3 t297 t298 t299 false) else (letterlocklaw6_RegressErrs.j1 kj5 a1 a2 a3 t297 t298 t299 (bt300.1.toList != ([] : List UInt8)))) else (letterlocklaw6_RegressErrs.j1 kj5 a1 a2 a3 t297 t298 t299 true))))))) = some r := H
        have A11 := Aside0.mk A110
        clear A110
        replace H := Option.bind_eq_some_iff.mp H
        obtain ⟨⟨t300, t301⟩, A120, H⟩ := H
        replace H : (if a2 < 0 then (if (true != (t299 == 9)) = true then (letterlocklaw6_RegressErrs.j1 kj5 a1 a2 a3 t297 t298 t299 true) else (if ((decide (a3 < 0)) != (t301 == 1)) = true then (letterlocklaw6_RegressErrs.j1 kj5 a1 a2 a3 t297 t298 t299 true) else (if t299 = 0 then (if t301 = 0 then (letterlocklaw6_RegressErrs.j1 kj5 a1 a2 a3 t297 t298 t299 false) else (letterlocklaw6_RegressErrs.j1 kj5 a1 a2 a3 t297 t298 t299 (t300.toList != ([] : List UInt8)))) else (if t298.toList = ([] : List UInt8) then (if t301 = 0 then (letterlocklaw6_RegressErrs.j1 kj5 a1 a2 a3 t297 t298 t299 false) else (letterlocklaw6_RegressErrs.j1 kj5 a1 a2 a3 t297 t298 t299 (t300.toList != ([] : List UInt8)))) else (letterlocklaw6_RegressErrs.j1 kj5 a1 a2 a3 t297 t298 t299 true))))) else (if ((decide (a2 > 7)) != (t299 == 9)) = true then (letterlocklaw6_RegressErrs.j1 kj5 a1 a2 a3 t297 t298 t299 true) else (if ((decide (a3 < 0)) != (t301 == 1)) = true then (letterlocklaw6_RegressErrs.j1 kj5 a1 a2 a3 t297 t298 t299 true) else (if t299 = 0 then (if t301 = 0 then (letterlocklaw6_RegressErrs.j1 kj5 a1 a2 a3 t297 t298 t299 false) else (letterlocklaw6_RegressErrs.j1 kj5 a1 a2 a3 t297 t298 t299 (t300.toList != ([] : List UInt8)))) else (if t298.toList = ([] : List UInt8) then (if t301 = 0 then (letterlocklaw6_RegressErrs.j1 kj5 a1 a2 a3 t297 t298 t299 false) else (letterlocklaw6_RegressErrs.j1 kj5 a1 a2 a3 t297 t298 t299 (t300.toList != ([] : List UInt8)))) else (letterlocklaw6_RegressErrs.j1 kj5 a1 a2 a3 t297 t298 t299 true)))))) = some r := H
        have A12 := Aside0.mk A120
        clear A120
        have HC13 := Aside0.mk H
        clear H
        go_upto_region 7 with (first | ((with_reducible refine gate_callee (f := 10) rfl ?_); refine goesL_ (some 31) rfl rfl Try.func10 (by kernel_rfl) rfl #[.slice A0 l0.length c0] rfl (by (try simp only [List.map_toArray, List.map_cons, List.map_nil]); first | done | rfl | (simp only [List.length_drop, List.length_take]; rfl)) ?_; (with_reducible refine (letterlocklaw6_grown.calls kj5 _ _ l0 t297 _ ?side1 ?side2 A10.out).mono ?_); (case side1 => repeat (first | exact (Kd.C_below HR0.out HB.out) | (with_reducible refine Kd.C_alloc ?_ _) | (with_reducible refine Kd.C_drewN ?_ _) | (with_reducible refine Kd.C_drew ?_))); (case side2 => exact HC0.out); rintro e w14 ⟨rfl, hb⟩; refine ⟨_, rfl, ?_⟩; have n0_ := Aside0.mk (below_step (by repeat (first | (with_reducible first | exact HB.out | apply below_alloc | apply pw_below_drewN | apply below_drew1) | exact HB.out)) hb); clear HB; have HB := n0_; clear n0_; (try clear hb); (try clear hb2); (try clear hk); (try clear hi)) | ((with_reducible refine gate_callee (f := 28) rfl ?_); refine goesL_ (some 35) rfl rfl Try.func28 (by kernel_rfl) rfl #[.string t297, .int .i64 a2] rfl (by (try simp only [List.map_toArray, List.map_cons, List.map_nil]); first | done | rfl | (simp only [List.length_drop, List.length_take]; rfl)) ?_; (with_reducible refine (regress_State.calls kj5 t297 a2 t298 t299 _ A11.out).mono ?_); rintro e w15 ⟨rfl, hb⟩; refine ⟨_, rfl, ?_⟩; have n0_ := Aside0.mk (below_step (by repeat (first | (with_reducible first | exact HB.out | apply below_alloc | apply pw_below_drewN | apply below_drew1) | exact HB.out)) hb); clear HB; have HB := n0_; clear n0_; (try clear hb); (try clear hb2); (try clear hk); (try clear hi)) | ((with_reducible refine gate_callee (f := 12) rfl ?_); refine goesL_ (some 41) rfl rfl Try.func12 (by kernel_rfl) rfl #[.string t297, .int .i64 a3] rfl (by (try simp only [List.map_toArray, List.map_cons, List.map_nil]); first | done | rfl | (simp only [List.length_drop, List.length_take]; rfl)) ?_; (with_reducible refine (regress_Back.calls kj5 t297 a3 t300 t301 _ A12.out).mono ?_); rintro e w16 ⟨rfl, hb⟩; refine ⟨_, rfl, ?_⟩; have n0_ := Aside0.mk (below_step (by repeat (first | (with_reducible first | exact HB.out | apply below_alloc | apply pw_below_drewN | apply below_drew1) | exact HB.out)) hb); clear HB; have HB := n0_; clear n0_; (try clear hb); (try clear hb2); (try clear hk); (try clear hi)))
        (try simp only [Act.put, List.setIfInBounds_toArray, List.set_cons_zero, List.set_cons_succ])
        go_cut [75] (fun v75 wc => ∃ (kq : Nat) (x75_12 : Bool), v75 = .bool x75_12 ∧ Aside0 (letterlocklaw6_RegressErrs.j1 kq a1 a2 a3 t297 t298 t299 x75_12 = some r) ∧ Aside0 (kq ≤ kj5) ∧ Aside0 (Below w.heap.size w wc))
        case first =>
          have H := HC13.out
          clear HC13
          by_cases c17 : a2 < 0
          · rw [if_pos c17] at H
            have c17b0 : decide (a2 < 0) = true := decide_eq_true c17
            clear c17
            (first | rw [c17b0] | (simp only [i64_w, i32_w]; rw [c17b0]) | skip)
            by_cases c18 : (true != (t299 == 9)) = true
            · rw [if_pos c18] at H
              have c18b0 : (true != (t299 == 9)) = true := c18
              (try (have c18b1 : decide (true = (t299 == 9)) = false := by simpa using c18))
              (try (have c18b2 : (true == (t299 == 9)) = false := by simpa using c18))
              (try (have c18b3 : ¬ (true = (t299 == 9)) := by simpa using c18))
              clear c18
              have H' := Aside0.mk H
              clear H
              go_wp2
              go_meet
              case rel => exact ⟨_, (true), (by first | rfl | (simp; done) | (simp [*]; done)), H', ⟨by have := HJ5.out; first | omega | exact Nat.le_refl _⟩, ⟨by repeat (first | (with_reducible first | exact HB.out | apply below_alloc | apply pw_below_drewN | apply below_drew1) | exact HB.out)⟩⟩
            · rw [if_neg c18] at H
              have c18b0 : (true != (t299 == 9)) = false := by simpa using c18
              (try (have c18b1 : decide (true = (t299 == 9)) = true := by simpa using c18))
              (try (have c18b2 : (true == (t299 == 9)) = true := by simpa using c18))
              clear c18
              by_cases c19 : ((decide (a3 < 0)) != (t301 == 1)) = true
              · rw [if_pos c19] at H
                have c19b0 : ((decide (a3 < 0)) != (t301 == 1)) = true := c19
                (try (have c19b1 : decide ((decide (a3 < 0)) = (t301 == 1)) = false := by simpa using c19))
                (try (have c19b2 : ((decide (a3 < 0)) == (t301 == 1)) = false := by simpa using c19))
                (try (have c19b3 : ¬ ((decide (a3 < 0)) = (t301 == 1)) := by simpa using c19))
                clear c19
                have H' := Aside0.mk H
                clear H
                go_wp2
                go_meet
                case rel => exact ⟨_, (true), (by first | rfl | (simp; done) | (simp [*]; done)), H', ⟨by have := HJ5.out; first | omega | exact Nat.le_refl _⟩, ⟨by repeat (first | (with_reducible first | exact HB.out | apply below_alloc | apply pw_below_drewN | apply below_drew1) | exact HB.out)⟩⟩
              · rw [if_neg c19] at H
                have c19b0 : ((decide (a3 < 0)) != (t301 == 1)) = false := by simpa using c19
                (try (have c19b1 : decide ((decide (a3 < 0)) = (t301 == 1)) = true := by simpa using c19))
                (try (have c19b2 : ((decide (a3 < 0)) == (t301 == 1)) = true := by simpa using c19))
                clear c19
                by_cases c20 : t299 = 0
                · rw [if_pos c20] at H
                  have c20b0 : (t299 == 0) = true := beq_iff_eq.mpr c20
                  have c20b1 : (t299 != 0) = false := bne_eq_false_iff_eq.mpr c20
                  clear c20
                  by_cases c21 : t301 = 0
                  · rw [if_pos c21] at H
                    have c21b0 : (t301 == 0) = true := beq_iff_eq.mpr c21
                    have c21b1 : (t301 != 0) = false := bne_eq_false_iff_eq.mpr c21
                    clear c21
                    have H' := Aside0.mk H
                    clear H
                    go_wp2
                    go_meet
                    case rel => exact ⟨_, (false), (by first | rfl | (simp; done) | (simp [*]; done)), H', ⟨by have := HJ5.out; first | omega | exact Nat.le_refl _⟩, ⟨by repeat (first | (with_reducible first | exact HB.out | apply below_alloc | apply pw_below_drewN | apply below_drew1) | exact HB.out)⟩⟩
                  · rw [if_neg c21] at H
                    have c21b0 : (t301 == 0) = false := beq_eq_false_iff_ne.mpr c21
                    have c21b1 : (t301 != 0) = true := bne_iff_ne.mpr c21
                    have H' := Aside0.mk H
                    clear H
                    go_wp2
                    go_meet
                    case rel => exact ⟨_, ((t300.toList != ([] : List UInt8))), (by first | rfl | (simp; done) | (simp [*]; done) | (simp [*]; cases t300.toList <;> rfl)), H', ⟨by have := HJ5.out; first | omega | exact Nat.le_refl _⟩, ⟨by repeat (first | (with_reducible first | exact HB.out | apply below_alloc | apply pw_below_drewN | apply below_drew1) | exact HB.out)⟩⟩
                · rw [if_neg c20] at H
                  have c20b0 : (t299 == 0) = false := beq_eq_false_iff_ne.mpr c20
                  have c20b1 : (t299 != 0) = true := bne_iff_ne.mpr c20
                  by_cases c22 : t298.toList = ([] : List UInt8)
                  · rw [if_pos c22] at H
                    have c22b0 : (t298.toList == ([] : List UInt8)) = true := beq_iff_eq.mpr c22
                    have c22b1 : (t298.toList != ([] : List UInt8)) = false := bne_eq_false_iff_eq.mpr c22
                    clear c22
                    by_cases c23 : t301 = 0
                    · rw [if_pos c23] at H
                      have c23b0 : (t301 == 0) = true := beq_iff_eq.mpr c23
                      have c23b1 : (t301 != 0) = false := bne_eq_false_iff_eq.mpr c23
                      clear c23
                      have H' := Aside0.mk H
                      clear H
                      go_wp2
                      go_meet
                      case rel => exact ⟨_, (false), (by first | rfl | (simp; done) | (simp [*]; done)), H', ⟨by have := HJ5.out; first | omega | exact Nat.le_refl _⟩, ⟨by repeat (first | (with_reducible first | exact HB.out | apply below_alloc | apply pw_below_drewN | apply below_drew1) | exact HB.out)⟩⟩
                    · rw [if_neg c23] at H
                      have c23b0 : (t301 == 0) = false := beq_eq_false_iff_ne.mpr c23
                      have c23b1 : (t301 != 0) = true := bne_iff_ne.mpr c23
                      have H' := Aside0.mk H
                      clear H
                      go_wp2
                      go_meet
                      case rel => exact ⟨_, ((t300.toList != ([] : List UInt8))), (by first | rfl | (simp; done) | (simp [*]; done) | (simp [*]; cases t300.toList <;> rfl)), H', ⟨by have := HJ5.out; first | omega | exact Nat.le_refl _⟩, ⟨by repeat (first | (with_reducible first | exact HB.out | apply below_alloc | apply pw_below_drewN | apply below_drew1) | exact HB.out)⟩⟩
                  · rw [if_neg c22] at H
                    have c22b0 : (t298.toList == ([] : List UInt8)) = false := beq_eq_false_iff_ne.mpr c22
                    have c22b1 : (t298.toList != ([] : List UInt8)) = true := bne_iff_ne.mpr c22
                    have H' := Aside0.mk H
                    clear H
                    go_wp2
                    go_meet
                    case rel => exact ⟨_, (true), (by first | rfl | (simp; done) | (simp [*]; done)), H', ⟨by have := HJ5.out; first | omega | exact Nat.le_refl _⟩, ⟨by repeat (first | (with_reducible first | exact HB.out | apply below_alloc | apply pw_below_drewN | apply below_drew1) | exact HB.out)⟩⟩
          · rw [if_neg c17] at H
            have c17b0 : decide (a2 < 0) = false := decide_eq_false c17
            clear c17
            (first | rw [c17b0] | (simp only [i64_w, i32_w]; rw [c17b0]) | skip)
            by_cases c24 : ((decide (a2 > 7)) != (t299 == 9)) = true
            · rw [if_pos c24] at H
              have c24b0 : ((decide (a2 > 7)) != (t299 == 9)) = true := c24
              (try (have c24b1 : decide ((decide (a2 > 7)) = (t299 == 9)) = false := by simpa using c24))
              (try (have c24b2 : ((decide (a2 > 7)) == (t299 == 9)) = false := by simpa using c24))
              (try (have c24b3 : ¬ ((decide (a2 > 7)) = (t299 == 9)) := by simpa using c24))
              clear c24
              have H' := Aside0.mk H
              clear H
              go_wp2
              go_meet
              case rel => exact ⟨_, (true), (by first | rfl | (simp; done) | (simp [*]; done)), H', ⟨by have := HJ5.out; first | omega | exact Nat.le_refl _⟩, ⟨by repeat (first | (with_reducible first | exact HB.out | apply below_alloc | apply pw_below_drewN | apply below_drew1) | exact HB.out)⟩⟩
            · rw [if_neg c24] at H
              have c24b0 : ((decide (a2 > 7)) != (t299 == 9)) = false := by simpa using c24
              (try (have c24b1 : decide ((decide (a2 > 7)) = (t299 == 9)) = true := by simpa using c24))
              (try (have c24b2 : ((decide (a2 > 7)) == (t299 == 9)) = true := by simpa using c24))
              clear c24
              by_cases c25 : ((decide (a3 < 0)) != (t301 == 1)) = true
              · rw [if_pos c25] at H
                have c25b0 : ((decide (a3 < 0)) != (t301 == 1)) = true := c25
                (try (have c25b1 : decide ((decide (a3 < 0)) = (t301 == 1)) = false := by simpa using c25))
                (try (have c25b2 : ((decide (a3 < 0)) == (t301 == 1)) = false := by simpa using c25))
                (try (have c25b3 : ¬ ((decide (a3 < 0)) = (t301 == 1)) := by simpa using c25))
                clear c25
                have H' := Aside0.mk H
                clear H
                go_wp2
                go_meet
                case rel => exact ⟨_, (true), (by first | rfl | (simp; done) | (simp [*]; done)), H', ⟨by have := HJ5.out; first | omega | exact Nat.le_refl _⟩, ⟨by repeat (first | (with_reducible first | exact HB.out | apply below_alloc | apply pw_below_drewN | apply below_drew1) | exact HB.out)⟩⟩
              · rw [if_neg c25] at H
                have c25b0 : ((decide (a3 < 0)) != (t301 == 1)) = false := by simpa using c25
                (try (have c25b1 : decide ((decide (a3 < 0)) = (t301 == 1)) = true := by simpa using c25))
                (try (have c25b2 : ((decide (a3 < 0)) == (t301 == 1)) = true := by simpa using c25))
                clear c25
                by_cases c26 : t299 = 0
                · rw [if_pos c26] at H
                  have c26b0 : (t299 == 0) = true := beq_iff_eq.mpr c26
                  have c26b1 : (t299 != 0) = false := bne_eq_false_iff_eq.mpr c26
                  clear c26
                  by_cases c27 : t301 = 0
                  · rw [if_pos c27] at H
                    have c27b0 : (t301 == 0) = true := beq_iff_eq.mpr c27
                    have c27b1 : (t301 != 0) = false := bne_eq_false_iff_eq.mpr c27
                    clear c27
                    have H' := Aside0.mk H
                    clear H
                    go_wp2
                    go_meet
                    case rel => exact ⟨_, (false), (by first | rfl | (simp; done) | (simp [*]; done)), H', ⟨by have := HJ5.out; first | omega | exact Nat.le_refl _⟩, ⟨by repeat (first | (with_reducible first | exact HB.out | apply below_alloc | apply pw_below_drewN | apply below_drew1) | exact HB.out)⟩⟩
                  · rw [if_neg c27] at H
                    have c27b0 : (t301 == 0) = false := beq_eq_false_iff_ne.mpr c27
                    have c27b1 : (t301 != 0) = true := bne_iff_ne.mpr c27
                    have H' := Aside0.mk H
                    clear H
                    go_wp2
                    go_meet
                    case rel => exact ⟨_, ((t300.toList != ([] : List UInt8))), (by first | rfl | (simp; done) | (simp [*]; done) | (simp [*]; cases t300.toList <;> rfl)), H', ⟨by have := HJ5.out; first | omega | exact Nat.le_refl _⟩, ⟨by repeat (first | (with_reducible first | exact HB.out | apply below_alloc | apply pw_below_drewN | apply below_drew1) | exact HB.out)⟩⟩
                · rw [if_neg c26] at H
                  have c26b0 : (t299 == 0) = false := beq_eq_false_iff_ne.mpr c26
                  have c26b1 : (t299 != 0) = true := bne_iff_ne.mpr c26
                  by_cases c28 : t298.toList = ([] : List UInt8)
                  · rw [if_pos c28] at H
                    have c28b0 : (t298.toList == ([] : List UInt8)) = true := beq_iff_eq.mpr c28
                    have c28b1 : (t298.toList != ([] : List UInt8)) = false := bne_eq_false_iff_eq.mpr c28
                    clear c28
                    by_cases c29 : t301 = 0
                    · rw [if_pos c29] at H
                      have c29b0 : (t301 == 0) = true := beq_iff_eq.mpr c29
                      have c29b1 : (t301 != 0) = false := bne_eq_false_iff_eq.mpr c29
                      clear c29
                      have H' := Aside0.mk H
                      clear H
                      go_wp2
                      go_meet
                      case rel => exact ⟨_, (false), (by first | rfl | (simp; done) | (simp [*]; done)), H', ⟨by have := HJ5.out; first | omega | exact Nat.le_refl _⟩, ⟨by repeat (first | (with_reducible first | exact HB.out | apply below_alloc | apply pw_below_drewN | apply below_drew1) | exact HB.out)⟩⟩
                    · rw [if_neg c29] at H
                      have c29b0 : (t301 == 0) = false := beq_eq_false_iff_ne.mpr c29
                      have c29b1 : (t301 != 0) = true := bne_iff_ne.mpr c29
                      have H' := Aside0.mk H
                      clear H
                      go_wp2
                      go_meet
                      case rel => exact ⟨_, ((t300.toList != ([] : List UInt8))), (by first | rfl | (simp; done) | (simp [*]; done) | (simp [*]; cases t300.toList <;> rfl)), H', ⟨by have := HJ5.out; first | omega | exact Nat.le_refl _⟩, ⟨by repeat (first | (with_reducible first | exact HB.out | apply below_alloc | apply pw_below_drewN | apply below_drew1) | exact HB.out)⟩⟩
                  · rw [if_neg c28] at H
                    have c28b0 : (t298.toList == ([] : List UInt8)) = false := beq_eq_false_iff_ne.mpr c28
                    have c28b1 : (t298.toList != ([] : List UInt8)) = true := bne_iff_ne.mpr c28
                    have H' := Aside0.mk H
                    clear H
                    go_wp2
                    go_meet
                    case rel => exact ⟨_, (true), (by first | rfl | (simp; done) | (simp [*]; done)), H', ⟨by have := HJ5.out; first | omega | exact Nat.le_refl _⟩, ⟨by repeat (first | (with_reducible first | exact HB.out | apply below_alloc | apply pw_below_drewN | apply below_drew1) | exact HB.out)⟩⟩
        case rest =>
          clear HC13
          try clear c1
          try clear c2
          try clear p2
          try clear c7
          try clear c8
          try clear c9
          try clear c10
          try clear c12
          try clear c17
          try clear c17b0
          try clear c18
          try clear c18b0
          try clear c18b1
          try clear c18b2
          try clear c19
          try clear c19b0
          try clear c19b1
          try clear c19b2
          try clear c20
          try clear c20b0
          try clear c20b1
          try clear c21
          try clear c21b0
          try clear c21b1
          try clear c22
          try clear c22b0
          try clear c22b1
          try clear c23
          try clear c23b0
          try clear c23b1
          try clear c24
          try clear c24b0
          try clear c24b1
          try clear c24b2
          try clear c25
          try clear c25b0
          try clear c25b1
          try clear c25b2
          try clear c26
          try clear c26b0
          try clear c26b1
          try clear c27
          try clear c27b0
          try clear c27b1
          try clear c28
          try clear c28b0
          try clear c28b1
          try clear c29
          try clear c29b0
          try clear c29b1
          try clear p2
          obtain ⟨kq, x75_12, rfl, HA, HJ12, HB⟩ := hcut
          cases kq with
          | zero => exact absurd HA.out (by simp [letterlocklaw6_RegressErrs.j1])
          | succ kj12 =>
            have H := HA.out
            clear HA
            simp only [letterlocklaw6_RegressErrs.j1] at H
            by_cases c30 : x75_12 = true
            · subst c30
              have H1 : (some false) = some r := by rw [if_pos rfl] at H; exact H
              clear H
              have H := H1
              clear H1
              obtain rfl := Option.some.inj H
              go_wp2
              go_ret
              exact ⟨by first | rfl | (simp [errW_none, errW_some] <;> rfl) | (simp [*, errW_none, errW_some] <;> rfl), by repeat (first | (with_reducible first | exact HB.out | apply below_alloc | apply pw_below_drewN | apply below_drew1) | exact HB.out)⟩
            · replace c30 := Bool.eq_false_iff.mpr c30
              subst c30
              have H1 : (if t299 = 0 then (if a2 = 7 then (letterlocklaw6_RegressErrs.j2 kj12 a1 a2 a3 (t298.toList != t297.toList)) else (letterlocklaw6_RegressErrs.j2 kj12 a1 a2 a3 false)) else (letterlocklaw6_RegressErrs.j2 kj12 a1 a2 a3 false)) = some r := by rw [if_neg (show ¬ (false = true) by decide)] at H; exact H
              clear H
              have H := H1
              clear H1
              have HC31 := Aside0.mk H
              clear H
              go_upto_region 9 with (fail)
              go_cut [86] (fun v86 wc => ∃ (kq : Nat) (x86_30 : Bool), v86 = .bool x86_30 ∧ Aside0 (letterlocklaw6_RegressErrs.j2 kq a1 a2 a3 x86_30 = some r) ∧ Aside0 (kq ≤ kj12) ∧ Aside0 (Below w.heap.size w wc))
              case first =>
                have H := HC31.out
                clear HC31
                by_cases c32 : t299 = 0
                · rw [if_pos c32] at H
                  have c32b0 : (t299 == 0) = true := beq_iff_eq.mpr c32
                  have c32b1 : (t299 != 0) = false := bne_eq_false_iff_eq.mpr c32
                  clear c32
                  (first | rw [c32b0] | (simp only [i64_w, i32_w]; rw [c32b0]) | skip)
                  by_cases c33 : a2 = 7
                  · rw [if_pos c33] at H
                    have c33b0 : (a2 == 7) = true := beq_iff_eq.mpr c33
                    have c33b1 : (a2 != 7) = false := bne_eq_false_iff_eq.mpr c33
                    clear c33
                    have H' := Aside0.mk H
                    clear H
                    go_wp2
                    go_meet
                    case rel => exact ⟨_, ((t298.toList != t297.toList)), (by first | rfl | (simp; done) | (simp [*]; done)), H', ⟨by have := HJ5.out; have := HJ12.out; first | omega | exact Nat.le_refl _⟩, ⟨by repeat (first | (with_reducible first | exact HB.out | apply below_alloc | apply pw_below_drewN | apply below_drew1) | exact HB.out)⟩⟩
                  · rw [if_neg c33] at H
                    have c33b0 : (a2 == 7) = false := beq_eq_false_iff_ne.mpr c33
                    have c33b1 : (a2 != 7) = true := bne_iff_ne.mpr c33
                    have H' := Aside0.mk H
                    clear H
                    go_wp2
                    go_meet
                    case rel => exact ⟨_, (false), (by first | rfl | (simp; done) | (simp [*]; done)), H', ⟨by have := HJ5.out; have := HJ12.out; first | omega | exact Nat.le_refl _⟩, ⟨by repeat (first | (with_reducible first | exact HB.out | apply below_alloc | apply pw_below_drewN | apply below_drew1) | exact HB.out)⟩⟩
                · rw [if_neg c32] at H
                  have c32b0 : (t299 == 0) = false := beq_eq_false_iff_ne.mpr c32
                  have c32b1 : (t299 != 0) = true := bne_iff_ne.mpr c32
                  (first | rw [c32b0] | (simp only [i64_w, i32_w]; rw [c32b0]) | skip)
                  have H' := Aside0.mk H
                  clear H
                  go_wp2
                  go_meet
                  case rel => exact ⟨_, (false), (by first | rfl | (simp; done) | (simp [*]; done)), H', ⟨by have := HJ5.out; have := HJ12.out; first | omega | exact Nat.le_refl _⟩, ⟨by repeat (first | (with_reducible first | exact HB.out | apply below_alloc | apply pw_below_drewN | apply below_drew1) | exact HB.out)⟩⟩
              case rest =>
                clear HC31
                try clear c1
                try clear c2
                try clear p2
                try clear c3
                try clear c7
                try clear c8
                try clear c9
                try clear c10
                try clear c12
                try clear c17
                try clear c17b0
                try clear c18
                try clear c18b0
                try clear c18b1
                try clear c18b2
                try clear c19
                try clear c19b0
                try clear c19b1
                try clear c19b2
                try clear c20
                try clear c20b0
                try clear c20b1
                try clear c21
                try clear c21b0
                try clear c21b1
                try clear c22
                try clear c22b0
                try clear c22b1
                try clear c23
                try clear c23b0
                try clear c23b1
                try clear c24
                try clear c24b0
                try clear c24b1
                try clear c24b2
                try clear c25
                try clear c25b0
                try clear c25b1
                try clear c25b2
                try clear c26
                try clear c26b0
                try clear c26b1
                try clear c27
                try clear c27b0
                try clear c27b1
                try clear c28
                try clear c28b0
                try clear c28b1
                try clear c29
                try clear c29b0
                try clear c29b1
                try clear c30
                try clear c32
                try clear c32b0
                try clear c32b1
                try clear c33
                try clear c33b0
                try clear c33b1
                try clear p2
                obtain ⟨kq, x86_30, rfl, HA, HJ30, HB⟩ := hcut
                cases kq with
                | zero => exact absurd HA.out (by simp [letterlocklaw6_RegressErrs.j2])
                | succ kj30 =>
                  have H := HA.out
                  clear HA
                  simp only [letterlocklaw6_RegressErrs.j2] at H
                  by_cases c34 : x86_30 = true
                  · subst c34
                    have H1 : (some false) = some r := by rw [if_pos rfl] at H; exact H
                    clear H
                    have H := H1
                    clear H1
                    obtain rfl := Option.some.inj H
                    go_wp2
                    go_ret
                    exact ⟨by first | rfl | (simp [errW_none, errW_some] <;> rfl) | (simp [*, errW_none, errW_some] <;> rfl), by repeat (first | (with_reducible first | exact HB.out | apply below_alloc | apply pw_below_drewN | apply below_drew1) | exact HB.out)⟩
                  · replace c34 := Bool.eq_false_iff.mpr c34
                    subst c34
                    have H1 : ((term_Kind.f a1).bind fun t302 => (if t302 = 0 then ((regress_State.f kj30 a1 a2).bind fun bt303 => ((regress_Back.f kj30 a1 a3).bind fun bt305 => ((regress_Key.f kj30 a1).bind fun bt307 => (if bt303.2 = 1 then (if bt305.2 = 1 then (if bt307.2 = 1 then (if bt303.1.toList = ([] : List UInt8) then (if bt305.1.toList = ([] : List UInt8) then (some (bt307.1.toList == ([] : List UInt8))) else (some false)) else (some false)) else (some false)) else (some false)) else (some false))))) else (some true))) = some r := by rw [if_neg (show ¬ (false = true) by decide)] at H; exact H
                    clear H
                    have H := H1
                    clear H1
                    replace H := Option.bind_eq_some_iff.mp H
                    obtain ⟨t302, A350, H⟩ := H
                    replace H : (if t302 = 0 then ((regress_State.f kj30 a1 a2).bind fun bt303 => ((regress_Back.f kj30 a1 a3).bind fun bt305 => ((regress_Key.f kj30 a1).bind fun bt307 => (if bt303.2 = 1 then (if bt305.2 = 1 then (if bt307.2 = 1 then (if bt303.1.toList = ([] : List UInt8) then (if bt305.1.toList = ([] : List UInt8) then (some (bt307.1.toList == ([] : List UInt8))) else (some false)) else (some false)) else (some false)) else (some false)) else (some false))))) else (some true)) = some r := H
                    have A35 := Aside0.mk A350
                    clear A350
                    by_cases c36 : t302 = 0
                    · rw [if_pos c36] at H
                      have c36b0 : (t302 == 0) = true := beq_iff_eq.mpr c36
                      have c36b1 : (t302 != 0) = false := bne_eq_false_iff_eq.mpr c36
                      clear c36
                      replace H := Option.bind_eq_some_iff.mp H
                      obtain ⟨⟨t303, t304⟩, A370, H⟩ := H
                      replace H : ((regress_Back.f kj30 a1 a3).bind fun bt305 => ((regress_Key.f kj30 a1).bind fun bt307 => (if t304 = 1 then (if bt305.2 = 1 then (if bt307.2 = 1 then (if t303.toList = ([] : List UInt8) then (if bt305.1.toList = ([] : List UInt8) then (some (bt307.1.toList == ([] : List UInt8))) else (some false)) else (some false)) else (some false)) else (some false)) else (some false)))) = some r := H
                      have A37 := Aside0.mk A370
                      clear A370
                      replace H := Option.bind_eq_some_iff.mp H
                      obtain ⟨⟨t305, t306⟩, A380, H⟩ := H
                      replace H : ((regress_Key.f kj30 a1).bind fun bt307 => (if t304 = 1 then (if t306 = 1 then (if bt307.2 = 1 then (if t303.toList = ([] : List UInt8) then (if t305.toList = ([] : List UInt8) then (some (bt307.1.toList == ([] : List UInt8))) else (some false)) else (some false)) else (some false)) else (some false)) else (some false))) = some r := H
                      have A38 := Aside0.mk A380
                      clear A380
                      replace H := Option.bind_eq_some_iff.mp H
                      obtain ⟨⟨t307, t308⟩, A390, H⟩ := H
                      replace H : (if t304 = 1 then (if t306 = 1 then (if t308 = 1 then (if t303.toList = ([] : List UInt8) then (if t305.toList = ([] : List UInt8) then (some (t307.toList == ([] : List UInt8))) else (some false)) else (some false)) else (some false)) else (some false)) else (some false)) = some r := H
                      have A39 := Aside0.mk A390
                      clear A390
                      by_cases c40 : t304 = 1
                      · rw [if_pos c40] at H
                        have c40b0 : (t304 == 1) = true := beq_iff_eq.mpr c40
                        have c40b1 : (t304 != 1) = false := bne_eq_false_iff_eq.mpr c40
                        clear c40
                        by_cases c41 : t306 = 1
                        · rw [if_pos c41] at H
                          have c41b0 : (t306 == 1) = true := beq_iff_eq.mpr c41
                          have c41b1 : (t306 != 1) = false := bne_eq_false_iff_eq.mpr c41
                          clear c41
                          by_cases c42 : t308 = 1
                          · rw [if_pos c42] at H
                            have c42b0 : (t308 == 1) = true := beq_iff_eq.mpr c42
                            have c42b1 : (t308 != 1) = false := bne_eq_false_iff_eq.mpr c42
                            clear c42
                            by_cases c43 : t303.toList = ([] : List UInt8)
                            · rw [if_pos c43] at H
                              have c43b0 : (t303.toList == ([] : List UInt8)) = true := beq_iff_eq.mpr c43
                              have c43b1 : (t303.toList != ([] : List UInt8)) = false := bne_eq_false_iff_eq.mpr c43
                              clear c43
                              by_cases c44 : t305.toList = ([] : List UInt8)
                              · rw [if_pos c44] at H
                                have c44b0 : (t305.toList == ([] : List UInt8)) = true := beq_iff_eq.mpr c44
                                have c44b1 : (t305.toList != ([] : List UInt8)) = false := bne_eq_false_iff_eq.mpr c44
                                clear c44
                                obtain rfl := Option.some.inj H
                                go_wp2_with (first | ((with_reducible refine gate_callee (f := 14) rfl ?_); refine goesL_ (some 88) rfl rfl Try.func14 (by kernel_rfl) rfl #[.string a1] rfl (by (try simp only [List.map_toArray, List.map_cons, List.map_nil]); first | done | rfl | (simp only [List.length_drop, List.length_take]; rfl)) ?_; (with_reducible refine (term_Kind.calls a1 t302 _ A35.out).mono ?_); rintro e w45 ⟨rfl, hb⟩; refine ⟨_, rfl, ?_⟩; have n0_ := Aside0.mk (below_step (by repeat (first | (with_reducible first | exact HB.out | apply below_alloc | apply pw_below_drewN | apply below_drew1) | exact HB.out)) hb); clear HB; have HB := n0_; clear n0_; (try clear hb); (try clear hb2); (try clear hk); (try clear hi)) | ((with_reducible refine gate_callee (f := 28) rfl ?_); refine goesL_ (some 93) rfl rfl Try.func28 (by kernel_rfl) rfl #[.string a1, .int .i64 a2] rfl (by (try simp only [List.map_toArray, List.map_cons, List.map_nil]); first | done | rfl | (simp only [List.length_drop, List.length_take]; rfl)) ?_; (with_reducible refine (regress_State.calls kj30 a1 a2 t303 t304 _ A37.out).mono ?_); rintro e w46 ⟨rfl, hb⟩; refine ⟨_, rfl, ?_⟩; have n0_ := Aside0.mk (below_step (by repeat (first | (with_reducible first | exact HB.out | apply below_alloc | apply pw_below_drewN | apply below_drew1) | exact HB.out)) hb); clear HB; have HB := n0_; clear n0_; (try clear hb); (try clear hb2); (try clear hk); (try clear hi)) | ((with_reducible refine gate_callee (f := 12) rfl ?_); refine goesL_ (some 99) rfl rfl Try.func12 (by kernel_rfl) rfl #[.string a1, .int .i64 a3] rfl (by (try simp only [List.map_toArray, List.map_cons, List.map_nil]); first | done | rfl | (simp only [List.length_drop, List.length_take]; rfl)) ?_; (with_reducible refine (regress_Back.calls kj30 a1 a3 t305 t306 _ A38.out).mono ?_); rintro e w47 ⟨rfl, hb⟩; refine ⟨_, rfl, ?_⟩; have n0_ := Aside0.mk (below_step (by repeat (first | (with_reducible first | exact HB.out | apply below_alloc | apply pw_below_drewN | apply below_drew1) | exact HB.out)) hb); clear HB; have HB := n0_; clear n0_; (try clear hb); (try clear hb2); (try clear hk); (try clear hi)) | ((with_reducible refine gate_callee (f := 31) rfl ?_); refine goesL_ (some 104) rfl rfl Try.func31 (by kernel_rfl) rfl #[.string a1] rfl (by (try simp only [List.map_toArray, List.map_cons, List.map_nil]); first | done | rfl | (simp only [List.length_drop, List.length_take]; rfl)) ?_; (with_reducible refine (regress_Key.calls kj30 a1 t307 t308 _ A39.out).mono ?_); rintro e w48 ⟨rfl, hb⟩; refine ⟨_, rfl, ?_⟩; have n0_ := Aside0.mk (below_step (by repeat (first | (with_reducible first | exact HB.out | apply below_alloc | apply pw_below_drewN | apply below_drew1) | exact HB.out)) hb); clear HB; have HB := n0_; clear n0_; (try clear hb); (try clear hb2); (try clear hk); (try clear hi)))
                                go_ret
                                exact ⟨by first | rfl | (simp [errW_none, errW_some] <;> rfl) | (simp [*, errW_none, errW_some] <;> rfl), by repeat (first | (with_reducible first | exact HB.out | apply below_alloc | apply pw_below_drewN | apply below_drew1) | exact HB.out)⟩
                              · rw [if_neg c44] at H
                                have c44b0 : (t305.toList == ([] : List UInt8)) = false := beq_eq_false_iff_ne.mpr c44
                                have c44b1 : (t305.toList != ([] : List UInt8)) = true := bne_iff_ne.mpr c44
                                obtain rfl := Option.some.inj H
                                go_wp2_with (first | ((with_reducible refine gate_callee (f := 14) rfl ?_); refine goesL_ (some 88) rfl rfl Try.func14 (by kernel_rfl) rfl #[.string a1] rfl (by (try simp only [List.map_toArray, List.map_cons, List.map_nil]); first | done | rfl | (simp only [List.length_drop, List.length_take]; rfl)) ?_; (with_reducible refine (term_Kind.calls a1 t302 _ A35.out).mono ?_); rintro e w49 ⟨rfl, hb⟩; refine ⟨_, rfl, ?_⟩; have n0_ := Aside0.mk (below_step (by repeat (first | (with_reducible first | exact HB.out | apply below_alloc | apply pw_below_drewN | apply below_drew1) | exact HB.out)) hb); clear HB; have HB := n0_; clear n0_; (try clear hb); (try clear hb2); (try clear hk); (try clear hi)) | ((with_reducible refine gate_callee (f := 28) rfl ?_); refine goesL_ (some 93) rfl rfl Try.func28 (by kernel_rfl) rfl #[.string a1, .int .i64 a2] rfl (by (try simp only [List.map_toArray, List.map_cons, List.map_nil]); first | done | rfl | (simp only [List.length_drop, List.length_take]; rfl)) ?_; (with_reducible refine (regress_State.calls kj30 a1 a2 t303 t304 _ A37.out).mono ?_); rintro e w50 ⟨rfl, hb⟩; refine ⟨_, rfl, ?_⟩; have n0_ := Aside0.mk (below_step (by repeat (first | (with_reducible first | exact HB.out | apply below_alloc | apply pw_below_drewN | apply below_drew1) | exact HB.out)) hb); clear HB; have HB := n0_; clear n0_; (try clear hb); (try clear hb2); (try clear hk); (try clear hi)) | ((with_reducible refine gate_callee (f := 12) rfl ?_); refine goesL_ (some 99) rfl rfl Try.func12 (by kernel_rfl) rfl #[.string a1, .int .i64 a3] rfl (by (try simp only [List.map_toArray, List.map_cons, List.map_nil]); first | done | rfl | (simp only [List.length_drop, List.length_take]; rfl)) ?_; (with_reducible refine (regress_Back.calls kj30 a1 a3 t305 t306 _ A38.out).mono ?_); rintro e w51 ⟨rfl, hb⟩; refine ⟨_, rfl, ?_⟩; have n0_ := Aside0.mk (below_step (by repeat (first | (with_reducible first | exact HB.out | apply below_alloc | apply pw_below_drewN | apply below_drew1) | exact HB.out)) hb); clear HB; have HB := n0_; clear n0_; (try clear hb); (try clear hb2); (try clear hk); (try clear hi)) | ((with_reducible refine gate_callee (f := 31) rfl ?_); refine goesL_ (some 104) rfl rfl Try.func31 (by kernel_rfl) rfl #[.string a1] rfl (by (try simp only [List.map_toArray, List.map_cons, List.map_nil]); first | done | rfl | (simp only [List.length_drop, List.length_take]; rfl)) ?_; (with_reducible refine (regress_Key.calls kj30 a1 t307 t308 _ A39.out).mono ?_); rintro e w52 ⟨rfl, hb⟩; refine ⟨_, rfl, ?_⟩; have n0_ := Aside0.mk (below_step (by repeat (first | (with_reducible first | exact HB.out | apply below_alloc | apply pw_below_drewN | apply below_drew1) | exact HB.out)) hb); clear HB; have HB := n0_; clear n0_; (try clear hb); (try clear hb2); (try clear hk); (try clear hi)))
                                go_ret
                                exact ⟨by first | rfl | (simp [errW_none, errW_some] <;> rfl) | (simp [*, errW_none, errW_some] <;> rfl), by repeat (first | (with_reducible first | exact HB.out | apply below_alloc | apply pw_below_drewN | apply below_drew1) | exact HB.out)⟩
                            · rw [if_neg c43] at H
                              have c43b0 : (t303.toList == ([] : List UInt8)) = false := beq_eq_false_iff_ne.mpr c43
                              have c43b1 : (t303.toList != ([] : List UInt8)) = true := bne_iff_ne.mpr c43
                              obtain rfl := Option.some.inj H
                              go_wp2_with (first | ((with_reducible refine gate_callee (f := 14) rfl ?_); refine goesL_ (some 88) rfl rfl Try.func14 (by kernel_rfl) rfl #[.string a1] rfl (by (try simp only [List.map_toArray, List.map_cons, List.map_nil]); first | done | rfl | (simp only [List.length_drop, List.length_take]; rfl)) ?_; (with_reducible refine (term_Kind.calls a1 t302 _ A35.out).mono ?_); rintro e w53 ⟨rfl, hb⟩; refine ⟨_, rfl, ?_⟩; have n0_ := Aside0.mk (below_step (by repeat (first | (with_reducible first | exact HB.out | apply below_alloc | apply pw_below_drewN | apply below_drew1) | exact HB.out)) hb); clear HB; have HB := n0_; clear n0_; (try clear hb); (try clear hb2); (try clear hk); (try clear hi)) | ((with_reducible refine gate_callee (f := 28) rfl ?_); refine goesL_ (some 93) rfl rfl Try.func28 (by kernel_rfl) rfl #[.string a1, .int .i64 a2] rfl (by (try simp only [List.map_toArray, List.map_cons, List.map_nil]); first | done | rfl | (simp only [List.length_drop, List.length_take]; rfl)) ?_; (with_reducible refine (regress_State.calls kj30 a1 a2 t303 t304 _ A37.out).mono ?_); rintro e w54 ⟨rfl, hb⟩; refine ⟨_, rfl, ?_⟩; have n0_ := Aside0.mk (below_step (by repeat (first | (with_reducible first | exact HB.out | apply below_alloc | apply pw_below_drewN | apply below_drew1) | exact HB.out)) hb); clear HB; have HB := n0_; clear n0_; (try clear hb); (try clear hb2); (try clear hk); (try clear hi)) | ((with_reducible refine gate_callee (f := 12) rfl ?_); refine goesL_ (some 99) rfl rfl Try.func12 (by kernel_rfl) rfl #[.string a1, .int .i64 a3] rfl (by (try simp only [List.map_toArray, List.map_cons, List.map_nil]); first | done | rfl | (simp only [List.length_drop, List.length_take]; rfl)) ?_; (with_reducible refine (regress_Back.calls kj30 a1 a3 t305 t306 _ A38.out).mono ?_); rintro e w55 ⟨rfl, hb⟩; refine ⟨_, rfl, ?_⟩; have n0_ := Aside0.mk (below_step (by repeat (first | (with_reducible first | exact HB.out | apply below_alloc | apply pw_below_drewN | apply below_drew1) | exact HB.out)) hb); clear HB; have HB := n0_; clear n0_; (try clear hb); (try clear hb2); (try clear hk); (try clear hi)) | ((with_reducible refine gate_callee (f := 31) rfl ?_); refine goesL_ (some 104) rfl rfl Try.func31 (by kernel_rfl) rfl #[.string a1] rfl (by (try simp only [List.map_toArray, List.map_cons, List.map_nil]); first | done | rfl | (simp only [List.length_drop, List.length_take]; rfl)) ?_; (with_reducible refine (regress_Key.calls kj30 a1 t307 t308 _ A39.out).mono ?_); rintro e w56 ⟨rfl, hb⟩; refine ⟨_, rfl, ?_⟩; have n0_ := Aside0.mk (below_step (by repeat (first | (with_reducible first | exact HB.out | apply below_alloc | apply pw_below_drewN | apply below_drew1) | exact HB.out)) hb); clear HB; have HB := n0_; clear n0_; (try clear hb); (try clear hb2); (try clear hk); (try clear hi)))
                              go_ret
                              exact ⟨by first | rfl | (simp [errW_none, errW_some] <;> rfl) | (simp [*, errW_none, errW_some] <;> rfl), by repeat (first | (with_reducible first | exact HB.out | apply below_alloc | apply pw_below_drewN | apply below_drew1) | exact HB.out)⟩
                          · rw [if_neg c42] at H
                            have c42b0 : (t308 == 1) = false := beq_eq_false_iff_ne.mpr c42
                            have c42b1 : (t308 != 1) = true := bne_iff_ne.mpr c42
                            obtain rfl := Option.some.inj H
                            go_wp2_with (first | ((with_reducible refine gate_callee (f := 14) rfl ?_); refine goesL_ (some 88) rfl rfl Try.func14 (by kernel_rfl) rfl #[.string a1] rfl (by (try simp only [List.map_toArray, List.map_cons, List.map_nil]); first | done | rfl | (simp only [List.length_drop, List.length_take]; rfl)) ?_; (with_reducible refine (term_Kind.calls a1 t302 _ A35.out).mono ?_); rintro e w57 ⟨rfl, hb⟩; refine ⟨_, rfl, ?_⟩; have n0_ := Aside0.mk (below_step (by repeat (first | (with_reducible first | exact HB.out | apply below_alloc | apply pw_below_drewN | apply below_drew1) | exact HB.out)) hb); clear HB; have HB := n0_; clear n0_; (try clear hb); (try clear hb2); (try clear hk); (try clear hi)) | ((with_reducible refine gate_callee (f := 28) rfl ?_); refine goesL_ (some 93) rfl rfl Try.func28 (by kernel_rfl) rfl #[.string a1, .int .i64 a2] rfl (by (try simp only [List.map_toArray, List.map_cons, List.map_nil]); first | done | rfl | (simp only [List.length_drop, List.length_take]; rfl)) ?_; (with_reducible refine (regress_State.calls kj30 a1 a2 t303 t304 _ A37.out).mono ?_); rintro e w58 ⟨rfl, hb⟩; refine ⟨_, rfl, ?_⟩; have n0_ := Aside0.mk (below_step (by repeat (first | (with_reducible first | exact HB.out | apply below_alloc | apply pw_below_drewN | apply below_drew1) | exact HB.out)) hb); clear HB; have HB := n0_; clear n0_; (try clear hb); (try clear hb2); (try clear hk); (try clear hi)) | ((with_reducible refine gate_callee (f := 12) rfl ?_); refine goesL_ (some 99) rfl rfl Try.func12 (by kernel_rfl) rfl #[.string a1, .int .i64 a3] rfl (by (try simp only [List.map_toArray, List.map_cons, List.map_nil]); first | done | rfl | (simp only [List.length_drop, List.length_take]; rfl)) ?_; (with_reducible refine (regress_Back.calls kj30 a1 a3 t305 t306 _ A38.out).mono ?_); rintro e w59 ⟨rfl, hb⟩; refine ⟨_, rfl, ?_⟩; have n0_ := Aside0.mk (below_step (by repeat (first | (with_reducible first | exact HB.out | apply below_alloc | apply pw_below_drewN | apply below_drew1) | exact HB.out)) hb); clear HB; have HB := n0_; clear n0_; (try clear hb); (try clear hb2); (try clear hk); (try clear hi)) | ((with_reducible refine gate_callee (f := 31) rfl ?_); refine goesL_ (some 104) rfl rfl Try.func31 (by kernel_rfl) rfl #[.string a1] rfl (by (try simp only [List.map_toArray, List.map_cons, List.map_nil]); first | done | rfl | (simp only [List.length_drop, List.length_take]; rfl)) ?_; (with_reducible refine (regress_Key.calls kj30 a1 t307 t308 _ A39.out).mono ?_); rintro e w60 ⟨rfl, hb⟩; refine ⟨_, rfl, ?_⟩; have n0_ := Aside0.mk (below_step (by repeat (first | (with_reducible first | exact HB.out | apply below_alloc | apply pw_below_drewN | apply below_drew1) | exact HB.out)) hb); clear HB; have HB := n0_; clear n0_; (try clear hb); (try clear hb2); (try clear hk); (try clear hi)))
                            go_ret
                            exact ⟨by first | rfl | (simp [errW_none, errW_some] <;> rfl) | (simp [*, errW_none, errW_some] <;> rfl), by repeat (first | (with_reducible first | exact HB.out | apply below_alloc | apply pw_below_drewN | apply below_drew1) | exact HB.out)⟩
                        · rw [if_neg c41] at H
                          have c41b0 : (t306 == 1) = false := beq_eq_false_iff_ne.mpr c41
                          have c41b1 : (t306 != 1) = true := bne_iff_ne.mpr c41
                          obtain rfl := Option.some.inj H
                          go_wp2_with (first | ((with_reducible refine gate_callee (f := 14) rfl ?_); refine goesL_ (some 88) rfl rfl Try.func14 (by kernel_rfl) rfl #[.string a1] rfl (by (try simp only [List.map_toArray, List.map_cons, List.map_nil]); first | done | rfl | (simp only [List.length_drop, List.length_take]; rfl)) ?_; (with_reducible refine (term_Kind.calls a1 t302 _ A35.out).mono ?_); rintro e w61 ⟨rfl, hb⟩; refine ⟨_, rfl, ?_⟩; have n0_ := Aside0.mk (below_step (by repeat (first | (with_reducible first | exact HB.out | apply below_alloc | apply pw_below_drewN | apply below_drew1) | exact HB.out)) hb); clear HB; have HB := n0_; clear n0_; (try clear hb); (try clear hb2); (try clear hk); (try clear hi)) | ((with_reducible refine gate_callee (f := 28) rfl ?_); refine goesL_ (some 93) rfl rfl Try.func28 (by kernel_rfl) rfl #[.string a1, .int .i64 a2] rfl (by (try simp only [List.map_toArray, List.map_cons, List.map_nil]); first | done | rfl | (simp only [List.length_drop, List.length_take]; rfl)) ?_; (with_reducible refine (regress_State.calls kj30 a1 a2 t303 t304 _ A37.out).mono ?_); rintro e w62 ⟨rfl, hb⟩; refine ⟨_, rfl, ?_⟩; have n0_ := Aside0.mk (below_step (by repeat (first | (with_reducible first | exact HB.out | apply below_alloc | apply pw_below_drewN | apply below_drew1) | exact HB.out)) hb); clear HB; have HB := n0_; clear n0_; (try clear hb); (try clear hb2); (try clear hk); (try clear hi)) | ((with_reducible refine gate_callee (f := 12) rfl ?_); refine goesL_ (some 99) rfl rfl Try.func12 (by kernel_rfl) rfl #[.string a1, .int .i64 a3] rfl (by (try simp only [List.map_toArray, List.map_cons, List.map_nil]); first | done | rfl | (simp only [List.length_drop, List.length_take]; rfl)) ?_; (with_reducible refine (regress_Back.calls kj30 a1 a3 t305 t306 _ A38.out).mono ?_); rintro e w63 ⟨rfl, hb⟩; refine ⟨_, rfl, ?_⟩; have n0_ := Aside0.mk (below_step (by repeat (first | (with_reducible first | exact HB.out | apply below_alloc | apply pw_below_drewN | apply below_drew1) | exact HB.out)) hb); clear HB; have HB := n0_; clear n0_; (try clear hb); (try clear hb2); (try clear hk); (try clear hi)) | ((with_reducible refine gate_callee (f := 31) rfl ?_); refine goesL_ (some 104) rfl rfl Try.func31 (by kernel_rfl) rfl #[.string a1] rfl (by (try simp only [List.map_toArray, List.map_cons, List.map_nil]); first | done | rfl | (simp only [List.length_drop, List.length_take]; rfl)) ?_; (with_reducible refine (regress_Key.calls kj30 a1 t307 t308 _ A39.out).mono ?_); rintro e w64 ⟨rfl, hb⟩; refine ⟨_, rfl, ?_⟩; have n0_ := Aside0.mk (below_step (by repeat (first | (with_reducible first | exact HB.out | apply below_alloc | apply pw_below_drewN | apply below_drew1) | exact HB.out)) hb); clear HB; have HB := n0_; clear n0_; (try clear hb); (try clear hb2); (try clear hk); (try clear hi)))
                          go_ret
                          exact ⟨by first | rfl | (simp [errW_none, errW_some] <;> rfl) | (simp [*, errW_none, errW_some] <;> rfl), by repeat (first | (with_reducible first | exact HB.out | apply below_alloc | apply pw_below_drewN | apply below_drew1) | exact HB.out)⟩
                      · rw [if_neg c40] at H
                        have c40b0 : (t304 == 1) = false := beq_eq_false_iff_ne.mpr c40
                        have c40b1 : (t304 != 1) = true := bne_iff_ne.mpr c40
                        obtain rfl := Option.some.inj H
                        go_wp2_with (first | ((with_reducible refine gate_callee (f := 14) rfl ?_); refine goesL_ (some 88) rfl rfl Try.func14 (by kernel_rfl) rfl #[.string a1] rfl (by (try simp only [List.map_toArray, List.map_cons, List.map_nil]); first | done | rfl | (simp only [List.length_drop, List.length_take]; rfl)) ?_; (with_reducible refine (term_Kind.calls a1 t302 _ A35.out).mono ?_); rintro e w65 ⟨rfl, hb⟩; refine ⟨_, rfl, ?_⟩; have n0_ := Aside0.mk (below_step (by repeat (first | (with_reducible first | exact HB.out | apply below_alloc | apply pw_below_drewN | apply below_drew1) | exact HB.out)) hb); clear HB; have HB := n0_; clear n0_; (try clear hb); (try clear hb2); (try clear hk); (try clear hi)) | ((with_reducible refine gate_callee (f := 28) rfl ?_); refine goesL_ (some 93) rfl rfl Try.func28 (by kernel_rfl) rfl #[.string a1, .int .i64 a2] rfl (by (try simp only [List.map_toArray, List.map_cons, List.map_nil]); first | done | rfl | (simp only [List.length_drop, List.length_take]; rfl)) ?_; (with_reducible refine (regress_State.calls kj30 a1 a2 t303 t304 _ A37.out).mono ?_); rintro e w66 ⟨rfl, hb⟩; refine ⟨_, rfl, ?_⟩; have n0_ := Aside0.mk (below_step (by repeat (first | (with_reducible first | exact HB.out | apply below_alloc | apply pw_below_drewN | apply below_drew1) | exact HB.out)) hb); clear HB; have HB := n0_; clear n0_; (try clear hb); (try clear hb2); (try clear hk); (try clear hi)) | ((with_reducible refine gate_callee (f := 12) rfl ?_); refine goesL_ (some 99) rfl rfl Try.func12 (by kernel_rfl) rfl #[.string a1, .int .i64 a3] rfl (by (try simp only [List.map_toArray, List.map_cons, List.map_nil]); first | done | rfl | (simp only [List.length_drop, List.length_take]; rfl)) ?_; (with_reducible refine (regress_Back.calls kj30 a1 a3 t305 t306 _ A38.out).mono ?_); rintro e w67 ⟨rfl, hb⟩; refine ⟨_, rfl, ?_⟩; have n0_ := Aside0.mk (below_step (by repeat (first | (with_reducible first | exact HB.out | apply below_alloc | apply pw_below_drewN | apply below_drew1) | exact HB.out)) hb); clear HB; have HB := n0_; clear n0_; (try clear hb); (try clear hb2); (try clear hk); (try clear hi)) | ((with_reducible refine gate_callee (f := 31) rfl ?_); refine goesL_ (some 104) rfl rfl Try.func31 (by kernel_rfl) rfl #[.string a1] rfl (by (try simp only [List.map_toArray, List.map_cons, List.map_nil]); first | done | rfl | (simp only [List.length_drop, List.length_take]; rfl)) ?_; (with_reducible refine (regress_Key.calls kj30 a1 t307 t308 _ A39.out).mono ?_); rintro e w68 ⟨rfl, hb⟩; refine ⟨_, rfl, ?_⟩; have n0_ := Aside0.mk (below_step (by repeat (first | (with_reducible first | exact HB.out | apply below_alloc | apply pw_below_drewN | apply below_drew1) | exact HB.out)) hb); clear HB; have HB := n0_; clear n0_; (try clear hb); (try clear hb2); (try clear hk); (try clear hi)))
                        go_ret
                        exact ⟨by first | rfl | (simp [errW_none, errW_some] <;> rfl) | (simp [*, errW_none, errW_some] <;> rfl), by repeat (first | (with_reducible first | exact HB.out | apply below_alloc | apply pw_below_drewN | apply below_drew1) | exact HB.out)⟩
                    · rw [if_neg c36] at H
                      have c36b0 : (t302 == 0) = false := beq_eq_false_iff_ne.mpr c36
                      have c36b1 : (t302 != 0) = true := bne_iff_ne.mpr c36
                      obtain rfl := Option.some.inj H
                      go_wp2_with (first | ((with_reducible refine gate_callee (f := 14) rfl ?_); refine goesL_ (some 88) rfl rfl Try.func14 (by kernel_rfl) rfl #[.string a1] rfl (by (try simp only [List.map_toArray, List.map_cons, List.map_nil]); first | done | rfl | (simp only [List.length_drop, List.length_take]; rfl)) ?_; (with_reducible refine (term_Kind.calls a1 t302 _ A35.out).mono ?_); rintro e w69 ⟨rfl, hb⟩; refine ⟨_, rfl, ?_⟩; have n0_ := Aside0.mk (below_step (by repeat (first | (with_reducible first | exact HB.out | apply below_alloc | apply pw_below_drewN | apply below_drew1) | exact HB.out)) hb); clear HB; have HB := n0_; clear n0_; (try clear hb); (try clear hb2); (try clear hk); (try clear hi)))
                      go_ret
                      exact ⟨by first | rfl | (simp [errW_none, errW_some] <;> rfl) | (simp [*, errW_none, errW_some] <;> rfl), by repeat (first | (with_reducible first | exact HB.out | apply below_alloc | apply pw_below_drewN | apply below_drew1) | exact HB.out)⟩

/-- THE ONE PURE STATEMENT of letterlocklaw6_RegressErrs: yours. -/
def letterlocklaw6_RegressErrs.Pure : Prop := ∀ (l0 : List Int) (a1 : ByteArray) (a2 : Int) (a3 : Int), l0.length ≤ maxLen → l0.length * 8 ≤ 140737488351232 → (∀ x ∈ l0, (Lit.int .i64 x).wf = true) → a1.size ≤ 140737488351232 → (Lit.int .i64 a2).wf = true → (Lit.int .i64 a3).wf = true → ∃ k, letterlocklaw6_RegressErrs.f k l0 a1 a2 a3 = some true
theorem letterlocklaw6_RegressErrs.walk (P : letterlocklaw6_RegressErrs.Pure) (a0 : Option Addr) (len0 cap0 : Nat) (z0 : List Int) (a1 : ByteArray) (a2 : Int) (a3 : Int) (w : World) (w0 : (a0 = none ∧ len0 = 0 ∧ cap0 = 0 ∧ z0 = []) ∨ ∃ x, a0 = some x ∧ len0 ≤ cap0 ∧ cap0 ≤ maxLen ∧ z0.length = cap0 ∧ (∀ i, i < z0.length → w.cell? (x.add i) = some (.int .i64 (z0.getD i 0))) ∧ ∀ n ∈ z0, (Lit.int .i64 n).wf = true) (y0 : len0 * 8 ≤ 140737488351232) (w1 : a1.size ≤ 140737488351232) (w2 : (Lit.int .i64 a2).wf = true) (w3 : (Lit.int .i64 a3).wf = true) :
    Calls Try.prog 7 #[.slice a0 len0 cap0, .string a1, .int .i64 a2, .int .i64 a3] w fun e w' => e = .returned (.bool true) ∧ Below w.heap.size w w' := by
  obtain ⟨l0, rfl, hr0, hm0, hw0, hc0⟩ := ReadsInt.ofRowC w0
  obtain ⟨k, h⟩ := P l0 a1 a2 a3 hm0 y0 hw0 w1 w2 w3
  refine (letterlocklaw6_RegressErrs.calls k _ _ l0 a1 a2 a3 true w (Kd.C_of_reads (d := (0 : Int)) (h1 := fun _ => rfl) hr0) hc0 h).mono ?_
  rintro e w' ⟨rfl, hd⟩
  exact ⟨rfl, hd⟩

/-! ### letterlockref5_Secret: function 25 -/
def letterlockref5_Secret.f (k : Nat) (a0 : ByteArray) (a1 : ByteArray) (a2 : Int) : Option (ByteArray × Int) := if a0.size + 1 ≤ 9223372036854775807 then (if (a0 ++ (⟨#[58]⟩ : ByteArray)).size + a1.size ≤ 9223372036854775807 then ((letterlockref3_OfText.f k ((a0 ++ (⟨#[58]⟩ : ByteArray)) ++ a1)).bind fun bt309 => (if bt309.2 = 0 then ((letterlockref3_OfAtom.f k a2).bind fun t311 => ((letterlockref3_OfPair.f k bt309.1 t311).bind fun bt312 => (if bt312.2 = 0 then ((letterlockref3_OfHash.f k bt312.1).bind fun bt314 => (some (bt314.1, bt314.2))) else (some ((⟨#[]⟩ : ByteArray), bt312.2))))) else (some ((⟨#[]⟩ : ByteArray), bt309.2)))) else (none)) else (none)
theorem letterlockref5_Secret.mono : ∀ a0 a1 a2 k, LeO (letterlockref5_Secret.f k a0 a1 a2) (letterlockref5_Secret.f (k + 1) a0 a1 a2) := by
  intro a0 a1 a2 k
  unfold letterlockref5_Secret.f
  repeat' first
      | (with_reducible exact letterlockref3_OfAtom.mono _ _)
      | (with_reducible exact letterlockref3_OfHash.mono _ _)
      | (with_reducible exact letterlockref3_OfPair.mono _ _ _)
      | (with_reducible exact letterlockref3_OfText.mono _ _)
      | (with_reducible exact LeO.refl _)
      | (with_reducible exact LeO.none _)
      | (with_reducible refine LeO.ite ?_ ?_)
      | (with_reducible refine LeO.bind ?_ (fun _ => ?_))
      | exact letterlockref3_OfAtom.mono _ _
      | exact letterlockref3_OfHash.mono _ _
      | exact letterlockref3_OfPair.mono _ _ _
      | exact letterlockref3_OfText.mono _ _
      | exact LeO.none _
      | refine LeO.ite ?_ ?_
      | refine LeO.bind ?_ (fun _ => ?_)
set_option maxHeartbeats 8000000 in
set_option maxRecDepth 100000 in
theorem letterlockref5_Secret.calls (k : Nat) (a0 : ByteArray) (a1 : ByteArray) (a2 : Int) (r1 : ByteArray) (r2 : Int) (w : World) (h : letterlockref5_Secret.f k a0 a1 a2 = some (r1, r2)) :
    Calls Try.prog 25 #[.string a0, .string a1, .int .u64 a2] w fun e w' => e = .returned (.tuple #[.string r1, .int .i64 r2]) ∧ Below w.heap.size w w' := by
  have HB := Aside0.mk (Below.refl w.heap.size w)
  have H : (if a0.size + 1 ≤ 9223372036854775807 then (if (a0 ++ (⟨#[58]⟩ : ByteArray)).size + a1.size ≤ 9223372036854775807 then ((letterlockref3_OfText.f k ((a0 ++ (⟨#[58]⟩ : ByteArray)) ++ a1)).bind fun bt309 => (if bt309.2 = 0 then ((letterlockref3_OfAtom.f k a2).bind fun t311 => ((letterlockref3_OfPair.f k bt309.1 t311).bind fun bt312 => (if bt312.2 = 0 then ((letterlockref3_OfHash.f k bt312.1).bind fun bt314 => (some (bt314.1, bt314.2))) else (some ((⟨#[]⟩ : ByteArray), bt312.2))))) else (some ((⟨#[]⟩ : ByteArray), bt309.2)))) else (none)) else (none)) = some (r1, r2) := h
  clear h
  by_cases c4 : a0.size + 1 ≤ 9223372036854775807
  · rw [if_pos c4] at H
    have c4b0 := eq_true c4
    have c4b1 : decide (a0.size + 1 ≤ 9223372036854775807) = true := decide_eq_true c4
    try have c4b2 : (9223372036854775807 < a0.size + 1) = False := eq_false (Nat.not_lt.2 c4)
    by_cases c5 : (a0 ++ (⟨#[58]⟩ : ByteArray)).size + a1.size ≤ 9223372036854775807
    · rw [if_pos c5] at H
      have c5b0 := eq_true c5
      have c5b1 : decide ((a0 ++ (⟨#[58]⟩ : ByteArray)).size + a1.size ≤ 9223372036854775807) = true := decide_eq_true c5
      try have c5b2 : (9223372036854775807 < (a0 ++ (⟨#[58]⟩ : ByteArray)).size + a1.size) = False := eq_false (Nat.not_lt.2 c5)
      replace H := Option.bind_eq_some_iff.mp H
      obtain ⟨⟨t309, t310⟩, A60, H⟩ := H
      replace H : (if t310 = 0 then ((letterlockref3_OfAtom.f k a2).bind fun t311 => ((letterlockref3_OfPair.f k t309 t311).bind fun bt312 => (if bt312.2 = 0 then ((letterlockref3_OfHash.f k bt312.1).bind fun bt314 => (some (bt314.1, bt314.2))) else (some ((⟨#[]⟩ : ByteArray), bt312.2))))) else (some ((⟨#[]⟩ : ByteArray), t310))) = some (r1, r2) := H
      have A6 := Aside0.mk A60
      clear A60
      by_cases c7 : t310 = 0
      · rw [if_pos c7] at H
        have c7b0 : (t310 == 0) = true := beq_iff_eq.mpr c7
        have c7b1 : (t310 != 0) = false := bne_eq_false_iff_eq.mpr c7
        clear c7
        replace H := Option.bind_eq_some_iff.mp H
        obtain ⟨t311, A80, H⟩ := H
        replace H : ((letterlockref3_OfPair.f k t309 t311).bind fun bt312 => (if bt312.2 = 0 then ((letterlockref3_OfHash.f k bt312.1).bind fun bt314 => (some (bt314.1, bt314.2))) else (some ((⟨#[]⟩ : ByteArray), bt312.2)))) = some (r1, r2) := H
        have A8 := Aside0.mk A80
        clear A80
        replace H := Option.bind_eq_some_iff.mp H
        obtain ⟨⟨t312, t313⟩, A90, H⟩ := H
        replace H : (if t313 = 0 then ((letterlockref3_OfHash.f k t312).bind fun bt314 => (some (bt314.1, bt314.2))) else (some ((⟨#[]⟩ : ByteArray), t313))) = some (r1, r2) := H
        have A9 := Aside0.mk A90
        clear A90
        by_cases c10 : t313 = 0
        · rw [if_pos c10] at H
          have c10b0 : (t313 == 0) = true := beq_iff_eq.mpr c10
          have c10b1 : (t313 != 0) = false := bne_eq_false_iff_eq.mpr c10
          clear c10
          replace H := Option.bind_eq_some_iff.mp H
          obtain ⟨⟨t314, t315⟩, A110, H⟩ := H
          replace H : (some (t314, t315)) = some (r1, r2) := H
          have A11 := Aside0.mk A110
          clear A110
          simp only [Option.some.injEq, Prod.mk.injEq] at H
          obtain ⟨rfl, rfl⟩ := H
          go_enter Try.func25, Try.ntmps25
          go_wp2_with (first | ((with_reducible refine gate_callee (f := 34) rfl ?_); refine goesL_ (some 16) rfl rfl Try.func34 (by kernel_rfl) rfl #[.string ((a0 ++ (⟨#[58]⟩ : ByteArray)) ++ a1)] rfl (by (try simp only [List.map_toArray, List.map_cons, List.map_nil]); first | done | rfl | (simp only [List.length_drop, List.length_take]; rfl)) ?_; (with_reducible refine (letterlockref3_OfText.calls k ((a0 ++ (⟨#[58]⟩ : ByteArray)) ++ a1) t309 t310 _ A6.out).mono ?_); rintro e w12 ⟨rfl, hb⟩; refine ⟨_, rfl, ?_⟩; have n0_ := Aside0.mk (below_step (by repeat (first | (with_reducible first | exact HB.out | apply below_alloc | apply pw_below_drewN | apply below_drew1) | exact HB.out)) hb); clear HB; have HB := n0_; clear n0_; (try clear hb); (try clear hb2); (try clear hk); (try clear hi)) | ((with_reducible refine gate_callee (f := 33) rfl ?_); refine goesL_ (some 25) rfl rfl Try.func33 (by kernel_rfl) rfl #[.int .u64 a2] rfl (by (try simp only [List.map_toArray, List.map_cons, List.map_nil]); first | done | rfl | (simp only [List.length_drop, List.length_take]; rfl)) ?_; (with_reducible refine (letterlockref3_OfAtom.calls k a2 t311 _ A8.out).mono ?_); rintro e w13 ⟨rfl, hb⟩; refine ⟨_, rfl, ?_⟩; have n0_ := Aside0.mk (below_step (by repeat (first | (with_reducible first | exact HB.out | apply below_alloc | apply pw_below_drewN | apply below_drew1) | exact HB.out)) hb); clear HB; have HB := n0_; clear n0_; (try clear hb); (try clear hb2); (try clear hk); (try clear hi)) | ((with_reducible refine gate_callee (f := 43) rfl ?_); refine goesL_ (some 26) rfl rfl Try.func43 (by kernel_rfl) rfl #[.string t309, .string t311] rfl (by (try simp only [List.map_toArray, List.map_cons, List.map_nil]); first | done | rfl | (simp only [List.length_drop, List.length_take]; rfl)) ?_; (with_reducible refine (letterlockref3_OfPair.calls k t309 t311 t312 t313 _ A9.out).mono ?_); rintro e w14 ⟨rfl, hb⟩; refine ⟨_, rfl, ?_⟩; have n0_ := Aside0.mk (below_step (by repeat (first | (with_reducible first | exact HB.out | apply below_alloc | apply pw_below_drewN | apply below_drew1) | exact HB.out)) hb); clear HB; have HB := n0_; clear n0_; (try clear hb); (try clear hb2); (try clear hk); (try clear hi)) | ((with_reducible refine gate_callee (f := 35) rfl ?_); refine goesL_ (some 33) rfl rfl Try.func35 (by kernel_rfl) rfl #[.string t312] rfl (by (try simp only [List.map_toArray, List.map_cons, List.map_nil]); first | done | rfl | (simp only [List.length_drop, List.length_take]; rfl)) ?_; (with_reducible refine (letterlockref3_OfHash.calls k t312 t314 t315 _ A11.out).mono ?_); rintro e w15 ⟨rfl, hb⟩; refine ⟨_, rfl, ?_⟩; have n0_ := Aside0.mk (below_step (by repeat (first | (with_reducible first | exact HB.out | apply below_alloc | apply pw_below_drewN | apply below_drew1) | exact HB.out)) hb); clear HB; have HB := n0_; clear n0_; (try clear hb); (try clear hb2); (try clear hk); (try clear hi)))
          go_ret2
          exact ⟨by first | rfl | (simp [errW_none, errW_some] <;> rfl) | (simp [*, errW_none, errW_some] <;> rfl), by repeat (first | (with_reducible first | exact HB.out | apply below_alloc | apply pw_below_drewN | apply below_drew1) | exact HB.out)⟩
        · rw [if_neg c10] at H
          have c10b0 : (t313 == 0) = false := beq_eq_false_iff_ne.mpr c10
          have c10b1 : (t313 != 0) = true := bne_iff_ne.mpr c10
          simp only [Option.some.injEq, Prod.mk.injEq] at H
          obtain ⟨rfl, rfl⟩ := H
          go_enter Try.func25, Try.ntmps25
          go_wp2_with (first | ((with_reducible refine gate_callee (f := 34) rfl ?_); refine goesL_ (some 16) rfl rfl Try.func34 (by kernel_rfl) rfl #[.string ((a0 ++ (⟨#[58]⟩ : ByteArray)) ++ a1)] rfl (by (try simp only [List.map_toArray, List.map_cons, List.map_nil]); first | done | rfl | (simp only [List.length_drop, List.length_take]; rfl)) ?_; (with_reducible refine (letterlockref3_OfText.calls k ((a0 ++ (⟨#[58]⟩ : ByteArray)) ++ a1) t309 t310 _ A6.out).mono ?_); rintro e w16 ⟨rfl, hb⟩; refine ⟨_, rfl, ?_⟩; have n0_ := Aside0.mk (below_step (by repeat (first | (with_reducible first | exact HB.out | apply below_alloc | apply pw_below_drewN | apply below_drew1) | exact HB.out)) hb); clear HB; have HB := n0_; clear n0_; (try clear hb); (try clear hb2); (try clear hk); (try clear hi)) | ((with_reducible refine gate_callee (f := 33) rfl ?_); refine goesL_ (some 25) rfl rfl Try.func33 (by kernel_rfl) rfl #[.int .u64 a2] rfl (by (try simp only [List.map_toArray, List.map_cons, List.map_nil]); first | done | rfl | (simp only [List.length_drop, List.length_take]; rfl)) ?_; (with_reducible refine (letterlockref3_OfAtom.calls k a2 t311 _ A8.out).mono ?_); rintro e w17 ⟨rfl, hb⟩; refine ⟨_, rfl, ?_⟩; have n0_ := Aside0.mk (below_step (by repeat (first | (with_reducible first | exact HB.out | apply below_alloc | apply pw_below_drewN | apply below_drew1) | exact HB.out)) hb); clear HB; have HB := n0_; clear n0_; (try clear hb); (try clear hb2); (try clear hk); (try clear hi)) | ((with_reducible refine gate_callee (f := 43) rfl ?_); refine goesL_ (some 26) rfl rfl Try.func43 (by kernel_rfl) rfl #[.string t309, .string t311] rfl (by (try simp only [List.map_toArray, List.map_cons, List.map_nil]); first | done | rfl | (simp only [List.length_drop, List.length_take]; rfl)) ?_; (with_reducible refine (letterlockref3_OfPair.calls k t309 t311 t312 t313 _ A9.out).mono ?_); rintro e w18 ⟨rfl, hb⟩; refine ⟨_, rfl, ?_⟩; have n0_ := Aside0.mk (below_step (by repeat (first | (with_reducible first | exact HB.out | apply below_alloc | apply pw_below_drewN | apply below_drew1) | exact HB.out)) hb); clear HB; have HB := n0_; clear n0_; (try clear hb); (try clear hb2); (try clear hk); (try clear hi)))
          go_ret2
          exact ⟨by first | rfl | (simp [errW_none, errW_some] <;> rfl) | (simp [*, errW_none, errW_some] <;> rfl), by repeat (first | (with_reducible first | exact HB.out | apply below_alloc | apply pw_below_drewN | apply below_drew1) | exact HB.out)⟩
      · rw [if_neg c7] at H
        have c7b0 : (t310 == 0) = false := beq_eq_false_iff_ne.mpr c7
        have c7b1 : (t310 != 0) = true := bne_iff_ne.mpr c7
        simp only [Option.some.injEq, Prod.mk.injEq] at H
        obtain ⟨rfl, rfl⟩ := H
        go_enter Try.func25, Try.ntmps25
        go_wp2_with (first | ((with_reducible refine gate_callee (f := 34) rfl ?_); refine goesL_ (some 16) rfl rfl Try.func34 (by kernel_rfl) rfl #[.string ((a0 ++ (⟨#[58]⟩ : ByteArray)) ++ a1)] rfl (by (try simp only [List.map_toArray, List.map_cons, List.map_nil]); first | done | rfl | (simp only [List.length_drop, List.length_take]; rfl)) ?_; (with_reducible refine (letterlockref3_OfText.calls k ((a0 ++ (⟨#[58]⟩ : ByteArray)) ++ a1) t309 t310 _ A6.out).mono ?_); rintro e w19 ⟨rfl, hb⟩; refine ⟨_, rfl, ?_⟩; have n0_ := Aside0.mk (below_step (by repeat (first | (with_reducible first | exact HB.out | apply below_alloc | apply pw_below_drewN | apply below_drew1) | exact HB.out)) hb); clear HB; have HB := n0_; clear n0_; (try clear hb); (try clear hb2); (try clear hk); (try clear hi)))
        go_ret2
        exact ⟨by first | rfl | (simp [errW_none, errW_some] <;> rfl) | (simp [*, errW_none, errW_some] <;> rfl), by repeat (first | (with_reducible first | exact HB.out | apply below_alloc | apply pw_below_drewN | apply below_drew1) | exact HB.out)⟩
    · rw [if_neg c5] at H
      exact absurd H (by simp)
  · rw [if_neg c4] at H
    exact absurd H (by simp)

/-! ### letterlockref5_Mix: function 27 -/
def letterlockref5_Mix.f (a0 : Int) : Option (Int) := some (Go.bits .xor .u64 (IntKind.u64.wrap ((Go.bits .xor .u64 (IntKind.u64.wrap ((Go.bits .xor .u64 (IntKind.u64.wrap (a0 + 11400714819323198485)) ((IntKind.u64.wrap (a0 + 11400714819323198485)) / 1073741824)) * 13787848793156543929)) ((IntKind.u64.wrap ((Go.bits .xor .u64 (IntKind.u64.wrap (a0 + 11400714819323198485)) ((IntKind.u64.wrap (a0 + 11400714819323198485)) / 1073741824)) * 13787848793156543929)) / 134217728)) * 10723151780598845931)) ((IntKind.u64.wrap ((Go.bits .xor .u64 (IntKind.u64.wrap ((Go.bits .xor .u64 (IntKind.u64.wrap (a0 + 11400714819323198485)) ((IntKind.u64.wrap (a0 + 11400714819323198485)) / 1073741824)) * 13787848793156543929)) ((IntKind.u64.wrap ((Go.bits .xor .u64 (IntKind.u64.wrap (a0 + 11400714819323198485)) ((IntKind.u64.wrap (a0 + 11400714819323198485)) / 1073741824)) * 13787848793156543929)) / 134217728)) * 10723151780598845931)) / 2147483648))
set_option maxHeartbeats 8000000 in
set_option maxRecDepth 100000 in
theorem letterlockref5_Mix.calls (a0 : Int) (r : Int) (w : World) (h : letterlockref5_Mix.f a0 = some r) :
    Calls Try.prog 27 #[.int .u64 a0] w fun e w' => e = .returned (.int .u64 r) ∧ Drawn0 w w' := by
  have H : (some (Go.bits .xor .u64 (IntKind.u64.wrap ((Go.bits .xor .u64 (IntKind.u64.wrap ((Go.bits .xor .u64 (IntKind.u64.wrap (a0 + 11400714819323198485)) ((IntKind.u64.wrap (a0 + 11400714819323198485)) / 1073741824)) * 13787848793156543929)) ((IntKind.u64.wrap ((Go.bits .xor .u64 (IntKind.u64.wrap (a0 + 11400714819323198485)) ((IntKind.u64.wrap (a0 + 11400714819323198485)) / 1073741824)) * 13787848793156543929)) / 134217728)) * 10723151780598845931)) ((IntKind.u64.wrap ((Go.bits .xor .u64 (IntKind.u64.wrap ((Go.bits .xor .u64 (IntKind.u64.wrap (a0 + 11400714819323198485)) ((IntKind.u64.wrap (a0 + 11400714819323198485)) / 1073741824)) * 13787848793156543929)) ((IntKind.u64.wrap ((Go.bits .xor .u64 (IntKind.u64.wrap (a0 + 11400714819323198485)) ((IntKind.u64.wrap (a0 + 11400714819323198485)) / 1073741824)) * 13787848793156543929)) / 134217728)) * 10723151780598845931)) / 2147483648))) = some r := h
  clear h
  obtain rfl := Option.some.inj H
  go_enter Try.func27, Try.ntmps27
  go_wp2
  go_ret
  exact ⟨by first | rfl | (simp; done) | (simp [*]; done), by repeat (first | exact Drawn0.refl _ | apply Drawn0.step)⟩

/-! ### letterlockref5_Draw: function 24 -/
def letterlockref5_Draw.f (a0 : Int) (a1 : Int) : Option (Int) := (letterlockref5_Mix.f (IntKind.u64.wrap (a0 + (IntKind.u64.wrap ((IntKind.u64.wrap (a1)) * 11400714819323198485))))).bind fun t316 => (some t316)
set_option maxHeartbeats 8000000 in
set_option maxRecDepth 100000 in
theorem letterlockref5_Draw.calls (a0 : Int) (a1 : Int) (r : Int) (w : World) (h : letterlockref5_Draw.f a0 a1 = some r) :
    Calls Try.prog 24 #[.int .u64 a0, .int .i64 a1] w fun e w' => e = .returned (.int .u64 r) ∧ Drawn0 w w' := by
  have H : ((letterlockref5_Mix.f (IntKind.u64.wrap (a0 + (IntKind.u64.wrap ((IntKind.u64.wrap (a1)) * 11400714819323198485))))).bind fun t316 => (some t316)) = some r := h
  clear h
  replace H := Option.bind_eq_some_iff.mp H
  obtain ⟨t316, A30, H⟩ := H
  replace H : (some t316) = some r := H
  have A3 := Aside0.mk A30
  clear A30
  obtain rfl := Option.some.inj H
  go_enter Try.func24, Try.ntmps24
  go_wp2_with (first | ((with_reducible refine gate_callee (f := 27) rfl ?_); refine goesL_ (some 10) rfl rfl Try.func27 (by kernel_rfl) rfl #[.int .u64 (IntKind.u64.wrap (a0 + (IntKind.u64.wrap ((IntKind.u64.wrap (a1)) * 11400714819323198485))))] rfl (by (try simp only [List.map_toArray, List.map_cons, List.map_nil]); first | done | rfl | (simp only [List.length_drop, List.length_take]; rfl)) ?_; (with_reducible refine (letterlockref5_Mix.calls (IntKind.u64.wrap (a0 + (IntKind.u64.wrap ((IntKind.u64.wrap (a1)) * 11400714819323198485)))) t316 _ A3.out).mono ?_); rintro e w' ⟨rfl, ⟨nd, rfl⟩⟩; refine ⟨_, rfl, ?_⟩))
  go_ret
  exact ⟨by first | rfl | (simp; done) | (simp [*]; done), by repeat (first | exact Drawn0.refl _ | apply Drawn0.step)⟩

/-! ### term_OfAtom: function 19 -/
def term_OfAtom.f (k : Nat) (a0 : Int) : Option (ByteArray) := (wire_Put.f k a0).bind fun t317 => (if 1 + t317.size ≤ 9223372036854775807 then (some ((⟨#[97]⟩ : ByteArray) ++ t317)) else (none))
theorem term_OfAtom.mono : ∀ a0 k, LeO (term_OfAtom.f k a0) (term_OfAtom.f (k + 1) a0) := by
  intro a0 k
  unfold term_OfAtom.f
  repeat' first
      | (with_reducible exact wire_Put.mono _ _)
      | (with_reducible exact LeO.refl _)
      | (with_reducible exact LeO.none _)
      | (with_reducible refine LeO.ite ?_ ?_)
      | (with_reducible refine LeO.bind ?_ (fun _ => ?_))
      | exact wire_Put.mono _ _
      | exact LeO.none _
      | refine LeO.ite ?_ ?_
      | refine LeO.bind ?_ (fun _ => ?_)
set_option maxHeartbeats 8000000 in
set_option maxRecDepth 100000 in
theorem term_OfAtom.calls (k : Nat) (a0 : Int) (r : ByteArray) (w : World) (h : term_OfAtom.f k a0 = some r) :
    Calls Try.prog 19 #[.int .u64 a0] w fun e w' => e = .returned (.string r) ∧ Below w.heap.size w w' := by
  have HB := Aside0.mk (Below.refl w.heap.size w)
  have H : ((wire_Put.f k a0).bind fun t317 => (if 1 + t317.size ≤ 9223372036854775807 then (some ((⟨#[97]⟩ : ByteArray) ++ t317)) else (none))) = some r := h
  clear h
  replace H := Option.bind_eq_some_iff.mp H
  obtain ⟨t317, A20, H⟩ := H
  replace H : (if 1 + t317.size ≤ 9223372036854775807 then (some ((⟨#[97]⟩ : ByteArray) ++ t317)) else (none)) = some r := H
  have A2 := Aside0.mk A20
  clear A20
  by_cases c3 : 1 + t317.size ≤ 9223372036854775807
  · rw [if_pos c3] at H
    have c3b0 := eq_true c3
    have c3b1 : decide (1 + t317.size ≤ 9223372036854775807) = true := decide_eq_true c3
    try have c3b2 : (9223372036854775807 < 1 + t317.size) = False := eq_false (Nat.not_lt.2 c3)
    obtain rfl := Option.some.inj H
    go_enter Try.func19, Try.ntmps19
    go_wp2_with (first | ((with_reducible refine gate_callee (f := 41) rfl ?_); refine goesL_ (some 4) rfl rfl Try.func41 (by kernel_rfl) rfl #[.int .u64 a0] rfl (by (try simp only [List.map_toArray, List.map_cons, List.map_nil]); first | done | rfl | (simp only [List.length_drop, List.length_take]; rfl)) ?_; (with_reducible refine (wire_Put.calls k a0 t317 _ A2.out).mono ?_); rintro e w4 ⟨rfl, hb⟩; refine ⟨_, rfl, ?_⟩; have n0_ := Aside0.mk (below_step (by repeat (first | (with_reducible first | exact HB.out | apply below_alloc | apply pw_below_drewN | apply below_drew1) | exact HB.out)) hb); clear HB; have HB := n0_; clear n0_; (try clear hb); (try clear hb2); (try clear hk); (try clear hi)))
    go_ret
    exact ⟨by first | rfl | (simp [errW_none, errW_some] <;> rfl) | (simp [*, errW_none, errW_some] <;> rfl), by repeat (first | (with_reducible first | exact HB.out | apply below_alloc | apply pw_below_drewN | apply below_drew1) | exact HB.out)⟩
  · rw [if_neg c3] at H
    exact absurd H (by simp)

end Go.Proofs.Ytpgbhgpjfjeomaa.PA
