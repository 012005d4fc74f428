-- printed by a program of this session (a copy of print.py that takes stubs) out of the translation; Lean checks it
import Derived.Test.YtpgbhgpjfjeomaaPAx0
import Derived.Test.YtpgbhgpjfjeomaaPAx1
import Derived.Test.YtpgbhgpjfjeomaaPAx5
import Derived.Test.YtpgbhgpjfjeomaaPAx6
namespace Go.Proofs.Ytpgbhgpjfjeomaa.PA
open Go.RowKit Go.Proofs.YtpgbhgpjfjeomaaW.PrintWords Go.Proofs.YtpgbhgpjfjeomaaW.PrintLast Go.Proofs.YtpgbhgpjfjeomaaW.PrintMore
attribute [local go_sem] max2_int min2_int max_two min_two max_three min_three max_four min_four   -- for this text's walks alone
set_option linter.unusedVariables false
set_option linter.unusedSimpArgs false

/-! ### letterlocklaw6_RegressTells: function 6 -/
mutual
def letterlocklaw6_RegressTells.j0 : Nat → ByteArray → List Int → Int → Int → Bool → Bool → Option (Bool)
  | 0, _, _, _, _, _, _ => none
  | k + 1, x0, x1, x2, x3, x9, x26 => if x26 = true then (some x9) else ((letterlocklaw6_grown.f k x1).bind fun t253 => ((regress_State.f k x0 x2).bind fun bt254 => ((letterlockref6_State.f k x0 x2).bind fun bt256 => ((regress_State.f k t253 x2).bind fun bt258 => ((letterlockref6_State.f k t253 x2).bind fun bt260 => (if bt254.1.toList = bt256.1.toList then (if bt254.2 = bt256.2 then (if bt258.1.toList = bt260.1.toList then (letterlocklaw6_RegressTells.j1 k x0 x3 t253 (bt258.2 != bt260.2)) else (letterlocklaw6_RegressTells.j1 k x0 x3 t253 true)) else (letterlocklaw6_RegressTells.j1 k x0 x3 t253 true)) else (letterlocklaw6_RegressTells.j1 k x0 x3 t253 true)))))))
def letterlocklaw6_RegressTells.j1 : Nat → ByteArray → Int → ByteArray → Bool → Option (Bool)
  | 0, _, _, _, _ => none
  | k + 1, x0, x3, x10, x71 => if x71 = true then (some false) else ((regress_Back.f k x0 x3).bind fun bt262 => ((letterlockref6_Back.f k x0 x3).bind fun bt264 => ((regress_Back.f k x10 x3).bind fun bt266 => ((letterlockref6_Back.f k x10 x3).bind fun bt268 => (if bt262.1.toList = bt264.1.toList then (if bt262.2 = bt264.2 then (if bt266.1.toList = bt268.1.toList then (letterlocklaw6_RegressTells.j2 k x0 x10 (bt266.2 != bt268.2)) else (letterlocklaw6_RegressTells.j2 k x0 x10 true)) else (letterlocklaw6_RegressTells.j2 k x0 x10 true)) else (letterlocklaw6_RegressTells.j2 k x0 x10 true))))))
def letterlocklaw6_RegressTells.j2 : Nat → ByteArray → ByteArray → Bool → Option (Bool)
  | 0, _, _, _ => none
  | k + 1, x0, x10, x113 => if x113 = true then (some false) else ((regress_Key.f k x0).bind fun bt270 => ((letterlockref6_Key.f k x0).bind fun bt272 => ((regress_Key.f k x10).bind fun bt274 => ((letterlockref6_Key.f k x10).bind fun bt276 => (if bt270.1.toList = bt272.1.toList then (if bt270.2 = bt272.2 then (if bt274.1.toList = bt276.1.toList then (some (bt274.2 == bt276.2)) else (some false)) else (some false)) else (some false))))))
end
def letterlocklaw6_RegressTells.f (k : Nat) (a0 : ByteArray) (l1 : List Int) (a2 : Int) (a3 : Int) : Option (Bool) := (letterlocklaw6_shown.f k).bind fun t252 => (if t252 = true then (letterlocklaw6_RegressTells.j0 k a0 l1 a2 a3 t252 (decide ((a0.size : Int) > 5000))) else (letterlocklaw6_RegressTells.j0 k a0 l1 a2 a3 t252 true))
theorem letterlocklaw6_RegressTells.mono_l : ∀ k, (∀ y0 y1 y2 y3 y4 y5, LeO (letterlocklaw6_RegressTells.j0 k y0 y1 y2 y3 y4 y5) (letterlocklaw6_RegressTells.j0 (k + 1) y0 y1 y2 y3 y4 y5)) ∧ (∀ y0 y1 y2 y3, LeO (letterlocklaw6_RegressTells.j1 k y0 y1 y2 y3) (letterlocklaw6_RegressTells.j1 (k + 1) y0 y1 y2 y3)) ∧ (∀ y0 y1 y2, LeO (letterlocklaw6_RegressTells.j2 k y0 y1 y2) (letterlocklaw6_RegressTells.j2 (k + 1) y0 y1 y2))
  | 0 => ⟨fun _ _ _ _ _ _ r h => by simp [letterlocklaw6_RegressTells.j0] at h, fun _ _ _ _ r h => by simp [letterlocklaw6_RegressTells.j1] at h, fun _ _ _ r h => by simp [letterlocklaw6_RegressTells.j2] at h⟩
  | k + 1 => by
    obtain ⟨ih0, ih1, ih2⟩ := letterlocklaw6_RegressTells.mono_l k
    refine ⟨?_, ?_, ?_⟩
    · intro y0 y1 y2 y3 y4 y5
      unfold letterlocklaw6_RegressTells.j0
      repeat' first
      | (with_reducible exact ih0 _ _ _ _ _ _)
      | (with_reducible exact ih1 _ _ _ _)
      | (with_reducible exact ih2 _ _ _)
      | (with_reducible exact letterlocklaw6_grown.mono _ _)
      | (with_reducible exact letterlocklaw6_shown.mono _)
      | (with_reducible exact letterlockref6_Back.mono _ _ _)
      | (with_reducible exact letterlockref6_Key.mono _ _)
      | (with_reducible exact letterlockref6_State.mono _ _ _)
      | (with_reducible exact regress_Back.mono _ _ _)
      | (with_reducible exact regress_Key.mono _ _)
      | (with_reducible exact regress_State.mono _ _ _)
      | (with_reducible exact LeO.refl _)
      | (with_reducible exact LeO.none _)
      | (with_reducible refine LeO.ite ?_ ?_)
      | (with_reducible refine LeO.bind ?_ (fun _ => ?_))
      | exact ih0 _ _ _ _ _ _
      | exact ih1 _ _ _ _
      | exact ih2 _ _ _
      | exact letterlocklaw6_grown.mono _ _
      | exact letterlocklaw6_shown.mono _
      | exact letterlockref6_Back.mono _ _ _
      | exact letterlockref6_Key.mono _ _
      | exact letterlockref6_State.mono _ _ _
      | exact regress_Back.mono _ _ _
      | exact regress_Key.mono _ _
      | exact regress_State.mono _ _ _
      | exact LeO.none _
      | refine LeO.ite ?_ ?_
      | refine LeO.bind ?_ (fun _ => ?_)
    · intro y0 y1 y2 y3
      unfold letterlocklaw6_RegressTells.j1
      repeat' first
      | (with_reducible exact ih0 _ _ _ _ _ _)
      | (with_reducible exact ih1 _ _ _ _)
      | (with_reducible exact ih2 _ _ _)
      | (with_reducible exact letterlocklaw6_grown.mono _ _)
      | (with_reducible exact letterlocklaw6_shown.mono _)
      | (with_reducible exact letterlockref6_Back.mono _ _ _)
      | (with_reducible exact letterlockref6_Key.mono _ _)
      | (with_reducible exact letterlockref6_State.mono _ _ _)
      | (with_reducible exact regress_Back.mono _ _ _)
      | (with_reducible exact regress_Key.mono _ _)
      | (with_reducible exact regress_State.mono _ _ _)
      | (with_reducible exact LeO.refl _)
      | (with_reducible exact LeO.none _)
      | (with_reducible refine LeO.ite ?_ ?_)
      | (with_reducible refine LeO.bind ?_ (fun _ => ?_))
      | exact ih0 _ _ _ _ _ _
      | exact ih1 _ _ _ _
      | exact ih2 _ _ _
      | exact letterlocklaw6_grown.mono _ _
      | exact letterlocklaw6_shown.mono _
      | exact letterlockref6_Back.mono _ _ _
      | exact letterlockref6_Key.mono _ _
      | exact letterlockref6_State.mono _ _ _
      | exact regress_Back.mono _ _ _
      | exact regress_Key.mono _ _
      | exact regress_State.mono _ _ _
      | exact LeO.none _
      | refine LeO.ite ?_ ?_
      | refine LeO.bind ?_ (fun _ => ?_)
    · intro y0 y1 y2
      unfold letterlocklaw6_RegressTells.j2
      repeat' first
      | (with_reducible exact ih0 _ _ _ _ _ _)
      | (with_reducible exact ih1 _ _ _ _)
      | (with_reducible exact ih2 _ _ _)
      | (with_reducible exact letterlocklaw6_grown.mono _ _)
      | (with_reducible exact letterlocklaw6_shown.mono _)
      | (with_reducible exact letterlockref6_Back.mono _ _ _)
      | (with_reducible exact letterlockref6_Key.mono _ _)
      | (with_reducible exact letterlockref6_State.mono _ _ _)
      | (with_reducible exact regress_Back.mono _ _ _)
      | (with_reducible exact regress_Key.mono _ _)
      | (with_reducible exact regress_State.mono _ _ _)
      | (with_reducible exact LeO.refl _)
      | (with_reducible exact LeO.none _)
      | (with_reducible refine LeO.ite ?_ ?_)
      | (with_reducible refine LeO.bind ?_ (fun _ => ?_))
      | exact ih0 _ _ _ _ _ _
      | exact ih1 _ _ _ _
      | exact ih2 _ _ _
      | exact letterlocklaw6_grown.mono _ _
      | exact letterlocklaw6_shown.mono _
      | exact letterlockref6_Back.mono _ _ _
      | exact letterlockref6_Key.mono _ _
      | exact letterlockref6_State.mono _ _ _
      | exact regress_Back.mono _ _ _
      | exact regress_Key.mono _ _
      | exact regress_State.mono _ _ _
      | exact LeO.none _
      | refine LeO.ite ?_ ?_
      | refine LeO.bind ?_ (fun _ => ?_)
theorem letterlocklaw6_RegressTells.mono : ∀ a0 a1 a2 a3 k, LeO (letterlocklaw6_RegressTells.f k a0 a1 a2 a3) (letterlocklaw6_RegressTells.f (k + 1) a0 a1 a2 a3) := by
  intro a0 a1 a2 a3 k
  obtain ⟨ih0, ih1, ih2⟩ := letterlocklaw6_RegressTells.mono_l k
  unfold letterlocklaw6_RegressTells.f
  repeat' first
      | (with_reducible exact ih0 _ _ _ _ _ _)
      | (with_reducible exact ih1 _ _ _ _)
      | (with_reducible exact ih2 _ _ _)
      | (with_reducible exact letterlocklaw6_grown.mono _ _)
      | (with_reducible exact letterlocklaw6_shown.mono _)
      | (with_reducible exact letterlockref6_Back.mono _ _ _)
      | (with_reducible exact letterlockref6_Key.mono _ _)
      | (with_reducible exact letterlockref6_State.mono _ _ _)
      | (with_reducible exact regress_Back.mono _ _ _)
      | (with_reducible exact regress_Key.mono _ _)
      | (with_reducible exact regress_State.mono _ _ _)
      | (with_reducible exact LeO.refl _)
      | (with_reducible exact LeO.none _)
      | (with_reducible refine LeO.ite ?_ ?_)
      | (with_reducible refine LeO.bind ?_ (fun _ => ?_))
      | exact ih0 _ _ _ _ _ _
      | exact ih1 _ _ _ _
      | exact ih2 _ _ _
      | exact letterlocklaw6_grown.mono _ _
      | exact letterlocklaw6_shown.mono _
      | exact letterlockref6_Back.mono _ _ _
      | exact letterlockref6_Key.mono _ _
      | exact letterlockref6_State.mono _ _ _
      | exact regress_Back.mono _ _ _
      | exact regress_Key.mono _ _
      | exact regress_State.mono _ _ _
      | exact LeO.none _
      | refine LeO.ite ?_ ?_
      | refine LeO.bind ?_ (fun _ => ?_)
set_option maxHeartbeats 8000000 in
set_option maxRecDepth 100000 in
theorem letterlocklaw6_RegressTells.calls (k : Nat) (a0 : ByteArray) (A1 : Option Addr) (c1 : Nat) (l1 : List Int) (a2 : Int) (a3 : Int) (r : Bool) (w : World) (hr1 : Kd.C (Kd.int .i64) w A1 l1.length l1) (hc1 : l1.length ≤ c1) (h : letterlocklaw6_RegressTells.f k a0 l1 a2 a3 = some r) :
    Calls Try.prog 6 #[.string a0, .slice A1 l1.length c1, .int .i64 a2, .int .i64 a3] w fun e w' => e = .returned (.bool r) ∧ Below w.heap.size w w' := by
  have HR1 := Aside0.mk hr1
  have HC1 := Aside0.mk hc1
  clear hr1 hc1
  have HB := Aside0.mk (Below.refl w.heap.size w)
  have H : ((letterlocklaw6_shown.f k).bind fun t252 => (if t252 = true then (letterlocklaw6_RegressTells.j0 k a0 l1 a2 a3 t252 (decide ((a0.size : Int) > 5000))) else (letterlocklaw6_RegressTells.j0 k a0 l1 a2 a3 t252 true))) = some r := h
  clear h
  replace H := Option.bind_eq_some_iff.mp H
  obtain ⟨t252, A50, H⟩ := H
  replace H : (if t252 = true then (letterlocklaw6_RegressTells.j0 k a0 l1 a2 a3 t252 (decide ((a0.size : Int) > 5000))) else (letterlocklaw6_RegressTells.j0 k a0 l1 a2 a3 t252 true)) = some r := H
  have A5 := Aside0.mk A50
  clear A50
  have HC6 := Aside0.mk H
  clear H
  go_enter Try.func6, Try.ntmps6
  go_upto_region 2 with (first | ((with_reducible refine gate_callee (f := 9) rfl ?_); refine goesL_ (some 19) rfl rfl Try.func9 (by kernel_rfl) rfl #[] rfl (by (try simp only [List.map_toArray, List.map_cons, List.map_nil]); first | done | rfl | (simp only [List.length_drop, List.length_take]; rfl)) ?_; (with_reducible refine (letterlocklaw6_shown.calls k  t252 _ A5.out).mono ?_); rintro e w7 ⟨rfl, hb⟩; refine ⟨_, rfl, ?_⟩; have n0_ := Aside0.mk (below_step (by repeat (first | (with_reducible first | exact HB.out | apply below_alloc | apply pw_below_drewN | apply below_drew1) | exact HB.out)) hb); clear HB; have HB := n0_; clear n0_; (try clear hb); (try clear hb2); (try clear hk); (try clear hi)))
  (try simp only [Act.put, List.setIfInBounds_toArray, List.set_cons_zero, List.set_cons_succ])
  go_cut [26] (fun v26 wc => ∃ (kq : Nat) (x26_5 : Bool), v26 = .bool x26_5 ∧ Aside0 (letterlocklaw6_RegressTells.j0 kq a0 l1 a2 a3 t252 x26_5 = some r) ∧ Aside0 (kq ≤ k) ∧ Aside0 (Below w.heap.size w wc))
  case first =>
    have H := HC6.out
    clear HC6
    by_cases c8 : t252 = true
    · subst c8
      have H1 : (letterlocklaw6_RegressTells.j0 k a0 l1 a2 a3 true (decide ((a0.size : Int) > 5000))) = some r := by rw [if_pos rfl] at H; exact H
      clear H
      have H := H1
      clear H1
      have H' := Aside0.mk H
      clear H
      go_wp2
      go_meet
      case rel => exact ⟨_, (decide ((a0.size : Int) > 5000)), (by first | rfl | (simp; done) | (simp [*]; done)), H', ⟨by first | omega | exact Nat.le_refl _⟩, ⟨by repeat (first | (with_reducible first | exact HB.out | apply below_alloc | apply pw_below_drewN | apply below_drew1) | exact HB.out)⟩⟩
    · replace c8 := Bool.eq_false_iff.mpr c8
      subst c8
      have H1 : (letterlocklaw6_RegressTells.j0 k a0 l1 a2 a3 false true) = some r := by rw [if_neg (show ¬ (false = true) by decide)] at H; exact H
      clear H
      have H := H1
      clear H1
      have H' := Aside0.mk H
      clear H
      go_wp2
      go_meet
      case rel => exact ⟨_, (true), (by first | rfl | (simp; done) | (simp [*]; done)), H', ⟨by first | omega | exact Nat.le_refl _⟩, ⟨by repeat (first | (with_reducible first | exact HB.out | apply below_alloc | apply pw_below_drewN | apply below_drew1) | exact HB.out)⟩⟩
  case rest =>
    clear HC6
    try clear c1
    try clear p2
    try clear c6
    try clear c8
    obtain ⟨kq, x26_5, rfl, HA, HJ5, HB⟩ := hcut
    cases kq with
    | zero => exact absurd HA.out (by simp [letterlocklaw6_RegressTells.j0])
    | succ kj5 =>
      have H := HA.out
      clear HA
      simp only [letterlocklaw6_RegressTells.j0] at H
      by_cases c9 : x26_5 = true
      · subst c9
        have H1 : (some t252) = some r := by rw [if_pos rfl] at H; exact H
        clear H
        have H := H1
        clear H1
        obtain rfl := Option.some.inj H
        go_wp2
        go_ret
        exact ⟨by first | rfl | (simp [errW_none, errW_some] <;> rfl) | (simp [*, errW_none, errW_some] <;> rfl), by repeat (first | (with_reducible first | exact HB.out | apply below_alloc | apply pw_below_drewN | apply below_drew1) | exact HB.out)⟩
      · replace c9 := Bool.eq_false_iff.mpr c9
        subst c9
        have H1 : ((letterlocklaw6_grown.f kj5 l1).bind fun t253 => ((regress_State.f kj5 a0 a2).bind fun bt254 => ((letterlockref6_State.f kj5 a0 a2).bind fun bt256 => ((regress_State.f kj5 t253 a2).bind fun bt258 => ((letterlockref6_State.f kj5 t253 a2).bind fun bt260 => (if bt254.1.toList = bt256.1.toList then (if bt254.2 = bt256.2 then (if bt258.1.toList = bt260.1.toList then (letterlocklaw6_RegressTells.j1 kj5 a0 a3 t253 (bt258.2 != bt260.2)) else (letterlocklaw6_RegressTells.j1 kj5 a0 a3 t253 true)) else (letterlocklaw6_RegressTells.j1 kj5 a0 a3 t253 true)) else (letterlocklaw6_RegressTells.j1 kj5 a0 a3 t253 true))))))) = some r := by rw [if_neg (show ¬ (false = true) by decide)] at H; exact H
        clear H
        have H := H1
        clear H1
        replace H := Option.bind_eq_some_iff.mp H
        obtain ⟨t253, A100, H⟩ := H
        replace H : ((regress_State.f kj5 a0 a2).bind fun bt254 => ((letterlockref6_State.f kj5 a0 a2).bind fun bt256 => ((regress_State.f kj5 t253 a2).bind fun bt258 => ((letterlockref6_State.f kj5 t253 a2).bind fun bt260 => (if bt254.1.toList = bt256.1.toList then (if bt254.2 = bt256.2 then (if bt258.1.toList = bt260.1.toList then (letterlocklaw6_RegressTells.j1 kj5 a0 a3 t253 (bt258.2 != bt260.2)) else (letterlocklaw6_RegressTells.j1 kj5 a0 a3 t253 true)) else (letterlocklaw6_RegressTells.j1 kj5 a0 a3 t253 true)) else (letterlocklaw6_RegressTells.j1 kj5 a0 a3 t253 true)))))) = some r := H
        have A10 := Aside0.mk A100
        clear A100
        replace H := Option.bind_eq_some_iff.mp H
        obtain ⟨⟨t254, t255⟩, A110, H⟩ := H
        replace H : ((letterlockref6_State.f kj5 a0 a2).bind fun bt256 => ((regress_State.f kj5 t253 a2).bind fun bt258 => ((letterlockref6_State.f kj5 t253 a2).bind fun bt260 => (if t254.toList = bt256.1.toList then (if t255 = bt256.2 then (if bt258.1.toList = bt260.1.toList then (letterlocklaw6_RegressTells.j1 kj5 a0 a3 t253 (bt258.2 != bt260.2)) else (letterlocklaw6_RegressTells.j1 kj5 a0 a3 t253 true)) else (letterlocklaw6_RegressTells.j1 kj5 a0 a3 t253 true)) else (letterlocklaw6_RegressTells.j1 kj5 a0 a3 t253 true))))) = some r := H
        have A11 := Aside0.mk A110
        clear A110
        replace H := Option.bind_eq_some_iff.mp H
        obtain ⟨⟨t256, t257⟩, A120, H⟩ := H
        replace H : ((regress_State.f kj5 t253 a2).bind fun bt258 => ((letterlockref6_State.f kj5 t253 a2).bind fun bt260 => (if t254.toList = t256.toList then (if t255 = t257 then (if bt258.1.toList = bt260.1.toList then (letterlocklaw6_RegressTells.j1 kj5 a0 a3 t253 (bt258.2 != bt260.2)) else (letterlocklaw6_RegressTells.j1 kj5 a0 a3 t253 true)) else (letterlocklaw6_RegressTells.j1 kj5 a0 a3 t253 true)) else (letterlocklaw6_RegressTells.j1 kj5 a0 a3 t253 true)))) = some r := H
        have A12 := Aside0.mk A120
        clear A120
        replace H := Option.bind_eq_some_iff.mp H
        obtain ⟨⟨t258, t259⟩, A130, H⟩ := H
        replace H : ((letterlockref6_State.f kj5 t253 a2).bind fun bt260 => (if t254.toList = t256.toList then (if t255 = t257 then (if t258.toList = bt260.1.toList then (letterlocklaw6_RegressTells.j1 kj5 a0 a3 t253 (t259 != bt260.2)) else (letterlocklaw6_RegressTells.j1 kj5 a0 a3 t253 true)) else (letterlocklaw6_RegressTells.j1 kj5 a0 a3 t253 true)) else (letterlocklaw6_RegressTells.j1 kj5 a0 a3 t253 true))) = some r := H
        have A13 := Aside0.mk A130
        clear A130
        replace H := Option.bind_eq_some_iff.mp H
        obtain ⟨⟨t260, t261⟩, A140, H⟩ := H
        replace H : (if t254.toList = t256.toList then (if t255 = t257 then (if t258.toList = t260.toList then (letterlocklaw6_RegressTells.j1 kj5 a0 a3 t253 (t259 != t261)) else (letterlocklaw6_RegressTells.j1 kj5 a0 a3 t253 true)) else (letterlocklaw6_RegressTells.j1 kj5 a0 a3 t253 true)) else (letterlocklaw6_RegressTells.j1 kj5 a0 a3 t253 true)) = some r := H
        have A14 := Aside0.mk A140
        clear A140
        have HC15 := Aside0.mk H
        clear H
        go_upto_region 9 with (first | ((with_reducible refine gate_callee (f := 10) rfl ?_); refine goesL_ (some 29) rfl rfl Try.func10 (by kernel_rfl) rfl #[.slice A1 l1.length c1] rfl (by (try simp only [List.map_toArray, List.map_cons, List.map_nil]); first | done | rfl | (simp only [List.length_drop, List.length_take]; rfl)) ?_; (with_reducible refine (letterlocklaw6_grown.calls kj5 _ _ l1 t253 _ ?side1 ?side2 A10.out).mono ?_); (case side1 => repeat (first | exact (Kd.C_below HR1.out HB.out) | (with_reducible refine Kd.C_alloc ?_ _) | (with_reducible refine Kd.C_drewN ?_ _) | (with_reducible refine Kd.C_drew ?_))); (case side2 => exact HC1.out); rintro e w16 ⟨rfl, hb⟩; refine ⟨_, rfl, ?_⟩; have n0_ := Aside0.mk (below_step (by repeat (first | (with_reducible first | exact HB.out | apply below_alloc | apply pw_below_drewN | apply below_drew1) | exact HB.out)) hb); clear HB; have HB := n0_; clear n0_; (try clear hb); (try clear hb2); (try clear hk); (try clear hi)) | ((with_reducible refine gate_callee (f := 28) rfl ?_); refine goesL_ (some 33) rfl rfl Try.func28 (by kernel_rfl) rfl #[.string a0, .int .i64 a2] rfl (by (try simp only [List.map_toArray, List.map_cons, List.map_nil]); first | done | rfl | (simp only [List.length_drop, List.length_take]; rfl)) ?_; (with_reducible refine (regress_State.calls kj5 a0 a2 t254 t255 _ A11.out).mono ?_); rintro e w17 ⟨rfl, hb⟩; refine ⟨_, rfl, ?_⟩; have n0_ := Aside0.mk (below_step (by repeat (first | (with_reducible first | exact HB.out | apply below_alloc | apply pw_below_drewN | apply below_drew1) | exact HB.out)) hb); clear HB; have HB := n0_; clear n0_; (try clear hb); (try clear hb2); (try clear hk); (try clear hi)) | ((with_reducible refine gate_callee (f := 29) rfl ?_); refine goesL_ (some 39) rfl rfl Try.func29 (by kernel_rfl) rfl #[.string a0, .int .i64 a2] rfl (by (try simp only [List.map_toArray, List.map_cons, List.map_nil]); first | done | rfl | (simp only [List.length_drop, List.length_take]; rfl)) ?_; (with_reducible refine (letterlockref6_State.calls kj5 a0 a2 t256 t257 _ A12.out).mono ?_); rintro e w18 ⟨rfl, hb⟩; refine ⟨_, rfl, ?_⟩; have n0_ := Aside0.mk (below_step (by repeat (first | (with_reducible first | exact HB.out | apply below_alloc | apply pw_below_drewN | apply below_drew1) | exact HB.out)) hb); clear HB; have HB := n0_; clear n0_; (try clear hb); (try clear hb2); (try clear hk); (try clear hi)) | ((with_reducible refine gate_callee (f := 28) rfl ?_); refine goesL_ (some 45) rfl rfl Try.func28 (by kernel_rfl) rfl #[.string t253, .int .i64 a2] rfl (by (try simp only [List.map_toArray, List.map_cons, List.map_nil]); first | done | rfl | (simp only [List.length_drop, List.length_take]; rfl)) ?_; (with_reducible refine (regress_State.calls kj5 t253 a2 t258 t259 _ A13.out).mono ?_); rintro e w19 ⟨rfl, hb⟩; refine ⟨_, rfl, ?_⟩; have n0_ := Aside0.mk (below_step (by repeat (first | (with_reducible first | exact HB.out | apply below_alloc | apply pw_below_drewN | apply below_drew1) | exact HB.out)) hb); clear HB; have HB := n0_; clear n0_; (try clear hb); (try clear hb2); (try clear hk); (try clear hi)) | ((with_reducible refine gate_callee (f := 29) rfl ?_); refine goesL_ (some 51) rfl rfl Try.func29 (by kernel_rfl) rfl #[.string t253, .int .i64 a2] rfl (by (try simp only [List.map_toArray, List.map_cons, List.map_nil]); first | done | rfl | (simp only [List.length_drop, List.length_take]; rfl)) ?_; (with_reducible refine (letterlockref6_State.calls kj5 t253 a2 t260 t261 _ A14.out).mono ?_); rintro e w20 ⟨rfl, hb⟩; refine ⟨_, rfl, ?_⟩; have n0_ := Aside0.mk (below_step (by repeat (first | (with_reducible first | exact HB.out | apply below_alloc | apply pw_below_drewN | apply below_drew1) | exact HB.out)) hb); clear HB; have HB := n0_; clear n0_; (try clear hb); (try clear hb2); (try clear hk); (try clear hi)))
        (try simp only [Act.put, List.setIfInBounds_toArray, List.set_cons_zero, List.set_cons_succ])
        go_cut [71] (fun v71 wc => ∃ (kq : Nat) (x71_14 : Bool), v71 = .bool x71_14 ∧ Aside0 (letterlocklaw6_RegressTells.j1 kq a0 a3 t253 x71_14 = some r) ∧ Aside0 (kq ≤ kj5) ∧ Aside0 (Below w.heap.size w wc))
        case first =>
          have H := HC15.out
          clear HC15
          by_cases c21 : t254.toList = t256.toList
          · rw [if_pos c21] at H
            have c21b0 : (t254.toList == t256.toList) = true := beq_iff_eq.mpr c21
            have c21b1 : (t254.toList != t256.toList) = false := bne_eq_false_iff_eq.mpr c21
            clear c21
            (first | rw [c21b0] | (simp only [i64_w, i32_w]; rw [c21b0]) | skip)
            by_cases c22 : t255 = t257
            · rw [if_pos c22] at H
              have c22b0 : (t255 == t257) = true := beq_iff_eq.mpr c22
              have c22b1 : (t255 != t257) = false := bne_eq_false_iff_eq.mpr c22
              clear c22
              by_cases c23 : t258.toList = t260.toList
              · rw [if_pos c23] at H
                have c23b0 : (t258.toList == t260.toList) = true := beq_iff_eq.mpr c23
                have c23b1 : (t258.toList != t260.toList) = false := bne_eq_false_iff_eq.mpr c23
                clear c23
                have H' := Aside0.mk H
                clear H
                go_wp2
                go_meet
                case rel => exact ⟨_, ((t259 != t261)), (by first | rfl | (simp; done) | (simp [*]; done)), H', ⟨by have := HJ5.out; first | omega | exact Nat.le_refl _⟩, ⟨by repeat (first | (with_reducible first | exact HB.out | apply below_alloc | apply pw_below_drewN | apply below_drew1) | exact HB.out)⟩⟩
              · rw [if_neg c23] at H
                have c23b0 : (t258.toList == t260.toList) = false := beq_eq_false_iff_ne.mpr c23
                have c23b1 : (t258.toList != t260.toList) = true := bne_iff_ne.mpr c23
                have H' := Aside0.mk H
                clear H
                go_wp2
                go_meet
                case rel => exact ⟨_, (true), (by first | rfl | (simp; done) | (simp [*]; done)), H', ⟨by have := HJ5.out; first | omega | exact Nat.le_refl _⟩, ⟨by repeat (first | (with_reducible first | exact HB.out | apply below_alloc | apply pw_below_drewN | apply below_drew1) | exact HB.out)⟩⟩
            · rw [if_neg c22] at H
              have c22b0 : (t255 == t257) = false := beq_eq_false_iff_ne.mpr c22
              have c22b1 : (t255 != t257) = true := bne_iff_ne.mpr c22
              have H' := Aside0.mk H
              clear H
              go_wp2
              go_meet
              case rel => exact ⟨_, (true), (by first | rfl | (simp; done) | (simp [*]; done)), H', ⟨by have := HJ5.out; first | omega | exact Nat.le_refl _⟩, ⟨by repeat (first | (with_reducible first | exact HB.out | apply below_alloc | apply pw_below_drewN | apply below_drew1) | exact HB.out)⟩⟩
          · rw [if_neg c21] at H
            have c21b0 : (t254.toList == t256.toList) = false := beq_eq_false_iff_ne.mpr c21
            have c21b1 : (t254.toList != t256.toList) = true := bne_iff_ne.mpr c21
            (first | rw [c21b0] | (simp only [i64_w, i32_w]; rw [c21b0]) | skip)
            have H' := Aside0.mk H
            clear H
            go_wp2
            go_meet
            case rel => exact ⟨_, (true), (by first | rfl | (simp; done) | (simp [*]; done)), H', ⟨by have := HJ5.out; first | omega | exact Nat.le_refl _⟩, ⟨by repeat (first | (with_reducible first | exact HB.out | apply below_alloc | apply pw_below_drewN | apply below_drew1) | exact HB.out)⟩⟩
        case rest =>
          clear HC15
          try clear c1
          try clear c2
          try clear p2
          try clear c6
          try clear c8
          try clear c9
          try clear c10
          try clear c21
          try clear c21b0
          try clear c21b1
          try clear c22
          try clear c22b0
          try clear c22b1
          try clear c23
          try clear c23b0
          try clear c23b1
          try clear p2
          obtain ⟨kq, x71_14, rfl, HA, HJ14, HB⟩ := hcut
          cases kq with
          | zero => exact absurd HA.out (by simp [letterlocklaw6_RegressTells.j1])
          | succ kj14 =>
            have H := HA.out
            clear HA
            simp only [letterlocklaw6_RegressTells.j1] at H
            by_cases c24 : x71_14 = true
            · subst c24
              have H1 : (some false) = some r := by rw [if_pos rfl] at H; exact H
              clear H
              have H := H1
              clear H1
              obtain rfl := Option.some.inj H
              go_wp2
              go_ret
              exact ⟨by first | rfl | (simp [errW_none, errW_some] <;> rfl) | (simp [*, errW_none, errW_some] <;> rfl), by repeat (first | (with_reducible first | exact HB.out | apply below_alloc | apply pw_below_drewN | apply below_drew1) | exact HB.out)⟩
            · replace c24 := Bool.eq_false_iff.mpr c24
              subst c24
              have H1 : ((regress_Back.f kj14 a0 a3).bind fun bt262 => ((letterlockref6_Back.f kj14 a0 a3).bind fun bt264 => ((regress_Back.f kj14 t253 a3).bind fun bt266 => ((letterlockref6_Back.f kj14 t253 a3).bind fun bt268 => (if bt262.1.toList = bt264.1.toList then (if bt262.2 = bt264.2 then (if bt266.1.toList = bt268.1.toList then (letterlocklaw6_RegressTells.j2 kj14 a0 t253 (bt266.2 != bt268.2)) else (letterlocklaw6_RegressTells.j2 kj14 a0 t253 true)) else (letterlocklaw6_RegressTells.j2 kj14 a0 t253 true)) else (letterlocklaw6_RegressTells.j2 kj14 a0 t253 true)))))) = some r := by rw [if_neg (show ¬ (false = true) by decide)] at H; exact H
              clear H
              have H := H1
              clear H1
              replace H := Option.bind_eq_some_iff.mp H
              obtain ⟨⟨t262, t263⟩, A250, H⟩ := H
              replace H : ((letterlockref6_Back.f kj14 a0 a3).bind fun bt264 => ((regress_Back.f kj14 t253 a3).bind fun bt266 => ((letterlockref6_Back.f kj14 t253 a3).bind fun bt268 => (if t262.toList = bt264.1.toList then (if t263 = bt264.2 then (if bt266.1.toList = bt268.1.toList then (letterlocklaw6_RegressTells.j2 kj14 a0 t253 (bt266.2 != bt268.2)) else (letterlocklaw6_RegressTells.j2 kj14 a0 t253 true)) else (letterlocklaw6_RegressTells.j2 kj14 a0 t253 true)) else (letterlocklaw6_RegressTells.j2 kj14 a0 t253 true))))) = some r := H
              have A25 := Aside0.mk A250
              clear A250
              replace H := Option.bind_eq_some_iff.mp H
              obtain ⟨⟨t264, t265⟩, A260, H⟩ := H
              replace H : ((regress_Back.f kj14 t253 a3).bind fun bt266 => ((letterlockref6_Back.f kj14 t253 a3).bind fun bt268 => (if t262.toList = t264.toList then (if t263 = t265 then (if bt266.1.toList = bt268.1.toList then (letterlocklaw6_RegressTells.j2 kj14 a0 t253 (bt266.2 != bt268.2)) else (letterlocklaw6_RegressTells.j2 kj14 a0 t253 true)) else (letterlocklaw6_RegressTells.j2 kj14 a0 t253 true)) else (letterlocklaw6_RegressTells.j2 kj14 a0 t253 true)))) = some r := H
              have A26 := Aside0.mk A260
              clear A260
              replace H := Option.bind_eq_some_iff.mp H
              obtain ⟨⟨t266, t267⟩, A270, H⟩ := H
              replace H : ((letterlockref6_Back.f kj14 t253 a3).bind fun bt268 => (if t262.toList = t264.toList then (if t263 = t265 then (if t266.toList = bt268.1.toList then (letterlocklaw6_RegressTells.j2 kj14 a0 t253 (t267 != bt268.2)) else (letterlocklaw6_RegressTells.j2 kj14 a0 t253 true)) else (letterlocklaw6_RegressTells.j2 kj14 a0 t253 true)) else (letterlocklaw6_RegressTells.j2 kj14 a0 t253 true))) = some r := H
              have A27 := Aside0.mk A270
              clear A270
              replace H := Option.bind_eq_some_iff.mp H
              obtain ⟨⟨t268, t269⟩, A280, H⟩ := H
              replace H : (if t262.toList = t264.toList then (if t263 = t265 then (if t266.toList = t268.toList then (letterlocklaw6_RegressTells.j2 kj14 a0 t253 (t267 != t269)) else (letterlocklaw6_RegressTells.j2 kj14 a0 t253 true)) else (letterlocklaw6_RegressTells.j2 kj14 a0 t253 true)) else (letterlocklaw6_RegressTells.j2 kj14 a0 t253 true)) = some r := H
              have A28 := Aside0.mk A280
              clear A280
              have HC29 := Aside0.mk H
              clear H
              go_upto_region 15 with (first | ((with_reducible refine gate_callee (f := 12) rfl ?_); refine goesL_ (some 75) rfl rfl Try.func12 (by kernel_rfl) rfl #[.string a0, .int .i64 a3] rfl (by (try simp only [List.map_toArray, List.map_cons, List.map_nil]); first | done | rfl | (simp only [List.length_drop, List.length_take]; rfl)) ?_; (with_reducible refine (regress_Back.calls kj14 a0 a3 t262 t263 _ A25.out).mono ?_); rintro e w30 ⟨rfl, hb⟩; refine ⟨_, rfl, ?_⟩; have n0_ := Aside0.mk (below_step (by repeat (first | (with_reducible first | exact HB.out | apply below_alloc | apply pw_below_drewN | apply below_drew1) | exact HB.out)) hb); clear HB; have HB := n0_; clear n0_; (try clear hb); (try clear hb2); (try clear hk); (try clear hi)) | ((with_reducible refine gate_callee (f := 30) rfl ?_); refine goesL_ (some 81) rfl rfl Try.func30 (by kernel_rfl) rfl #[.string a0, .int .i64 a3] rfl (by (try simp only [List.map_toArray, List.map_cons, List.map_nil]); first | done | rfl | (simp only [List.length_drop, List.length_take]; rfl)) ?_; (with_reducible refine (letterlockref6_Back.calls kj14 a0 a3 t264 t265 _ A26.out).mono ?_); rintro e w31 ⟨rfl, hb⟩; refine ⟨_, rfl, ?_⟩; have n0_ := Aside0.mk (below_step (by repeat (first | (with_reducible first | exact HB.out | apply below_alloc | apply pw_below_drewN | apply below_drew1) | exact HB.out)) hb); clear HB; have HB := n0_; clear n0_; (try clear hb); (try clear hb2); (try clear hk); (try clear hi)) | ((with_reducible refine gate_callee (f := 12) rfl ?_); refine goesL_ (some 87) rfl rfl Try.func12 (by kernel_rfl) rfl #[.string t253, .int .i64 a3] rfl (by (try simp only [List.map_toArray, List.map_cons, List.map_nil]); first | done | rfl | (simp only [List.length_drop, List.length_take]; rfl)) ?_; (with_reducible refine (regress_Back.calls kj14 t253 a3 t266 t267 _ A27.out).mono ?_); rintro e w32 ⟨rfl, hb⟩; refine ⟨_, rfl, ?_⟩; have n0_ := Aside0.mk (below_step (by repeat (first | (with_reducible first | exact HB.out | apply below_alloc | apply pw_below_drewN | apply below_drew1) | exact HB.out)) hb); clear HB; have HB := n0_; clear n0_; (try clear hb); (try clear hb2); (try clear hk); (try clear hi)) | ((with_reducible refine gate_callee (f := 30) rfl ?_); refine goesL_ (some 93) rfl rfl Try.func30 (by kernel_rfl) rfl #[.string t253, .int .i64 a3] rfl (by (try simp only [List.map_toArray, List.map_cons, List.map_nil]); first | done | rfl | (simp only [List.length_drop, List.length_take]; rfl)) ?_; (with_reducible refine (letterlockref6_Back.calls kj14 t253 a3 t268 t269 _ A28.out).mono ?_); rintro e w33 ⟨rfl, hb⟩; refine ⟨_, rfl, ?_⟩; have n0_ := Aside0.mk (below_step (by repeat (first | (with_reducible first | exact HB.out | apply below_alloc | apply pw_below_drewN | apply below_drew1) | exact HB.out)) hb); clear HB; have HB := n0_; clear n0_; (try clear hb); (try clear hb2); (try clear hk); (try clear hi)))
              (try simp only [Act.put, List.setIfInBounds_toArray, List.set_cons_zero, List.set_cons_succ])
              go_cut [113] (fun v113 wc => ∃ (kq : Nat) (x113_28 : Bool), v113 = .bool x113_28 ∧ Aside0 (letterlocklaw6_RegressTells.j2 kq a0 t253 x113_28 = some r) ∧ Aside0 (kq ≤ kj14) ∧ Aside0 (Below w.heap.size w wc))
              case first =>
                have H := HC29.out
                clear HC29
                by_cases c34 : t262.toList = t264.toList
                · rw [if_pos c34] at H
                  have c34b0 : (t262.toList == t264.toList) = true := beq_iff_eq.mpr c34
                  have c34b1 : (t262.toList != t264.toList) = false := bne_eq_false_iff_eq.mpr c34
                  clear c34
                  (first | rw [c34b0] | (simp only [i64_w, i32_w]; rw [c34b0]) | skip)
                  by_cases c35 : t263 = t265
                  · rw [if_pos c35] at H
                    have c35b0 : (t263 == t265) = true := beq_iff_eq.mpr c35
                    have c35b1 : (t263 != t265) = false := bne_eq_false_iff_eq.mpr c35
                    clear c35
                    by_cases c36 : t266.toList = t268.toList
                    · rw [if_pos c36] at H
                      have c36b0 : (t266.toList == t268.toList) = true := beq_iff_eq.mpr c36
                      have c36b1 : (t266.toList != t268.toList) = false := bne_eq_false_iff_eq.mpr c36
                      clear c36
                      have H' := Aside0.mk H
                      clear H
                      go_wp2
                      go_meet
                      case rel => exact ⟨_, ((t267 != t269)), (by first | rfl | (simp; done) | (simp [*]; done)), H', ⟨by have := HJ5.out; have := HJ14.out; first | omega | exact Nat.le_refl _⟩, ⟨by repeat (first | (with_reducible first | exact HB.out | apply below_alloc | apply pw_below_drewN | apply below_drew1) | exact HB.out)⟩⟩
                    · rw [if_neg c36] at H
                      have c36b0 : (t266.toList == t268.toList) = false := beq_eq_false_iff_ne.mpr c36
                      have c36b1 : (t266.toList != t268.toList) = true := bne_iff_ne.mpr c36
                      have H' := Aside0.mk H
                      clear H
                      go_wp2
                      go_meet
                      case rel => exact ⟨_, (true), (by first | rfl | (simp; done) | (simp [*]; done)), H', ⟨by have := HJ5.out; have := HJ14.out; first | omega | exact Nat.le_refl _⟩, ⟨by repeat (first | (with_reducible first | exact HB.out | apply below_alloc | apply pw_below_drewN | apply below_drew1) | exact HB.out)⟩⟩
                  · rw [if_neg c35] at H
                    have c35b0 : (t263 == t265) = false := beq_eq_false_iff_ne.mpr c35
                    have c35b1 : (t263 != t265) = true := bne_iff_ne.mpr c35
                    have H' := Aside0.mk H
                    clear H
                    go_wp2
                    go_meet
                    case rel => exact ⟨_, (true), (by first | rfl | (simp; done) | (simp [*]; done)), H', ⟨by have := HJ5.out; have := HJ14.out; first | omega | exact Nat.le_refl _⟩, ⟨by repeat (first | (with_reducible first | exact HB.out | apply below_alloc | apply pw_below_drewN | apply below_drew1) | exact HB.out)⟩⟩
                · rw [if_neg c34] at H
                  have c34b0 : (t262.toList == t264.toList) = false := beq_eq_false_iff_ne.mpr c34
                  have c34b1 : (t262.toList != t264.toList) = true := bne_iff_ne.mpr c34
                  (first | rw [c34b0] | (simp only [i64_w, i32_w]; rw [c34b0]) | skip)
                  have H' := Aside0.mk H
                  clear H
                  go_wp2
                  go_meet
                  case rel => exact ⟨_, (true), (by first | rfl | (simp; done) | (simp [*]; done)), H', ⟨by have := HJ5.out; have := HJ14.out; first | omega | exact Nat.le_refl _⟩, ⟨by repeat (first | (with_reducible first | exact HB.out | apply below_alloc | apply pw_below_drewN | apply below_drew1) | exact HB.out)⟩⟩
              case rest =>
                clear HC29
                try clear c1
                try clear c2
                try clear p2
                try clear c3
                try clear c6
                try clear c8
                try clear c9
                try clear c10
                try clear c12
                try clear c21
                try clear c21b0
                try clear c21b1
                try clear c22
                try clear c22b0
                try clear c22b1
                try clear c23
                try clear c23b0
                try clear c23b1
                try clear c24
                try clear c28
                try clear c29
                try clear c30
                try clear c34
                try clear c34b0
                try clear c34b1
                try clear c35
                try clear c35b0
                try clear c35b1
                try clear c36
                try clear c36b0
                try clear c36b1
                try clear p2
                obtain ⟨kq, x113_28, rfl, HA, HJ28, HB⟩ := hcut
                cases kq with
                | zero => exact absurd HA.out (by simp [letterlocklaw6_RegressTells.j2])
                | succ kj28 =>
                  have H := HA.out
                  clear HA
                  simp only [letterlocklaw6_RegressTells.j2] at H
                  by_cases c37 : x113_28 = true
                  · subst c37
                    have H1 : (some false) = some r := by rw [if_pos rfl] at H; exact H
                    clear H
                    have H := H1
                    clear H1
                    obtain rfl := Option.some.inj H
                    go_wp2
                    go_ret
                    exact ⟨by first | rfl | (simp [errW_none, errW_some] <;> rfl) | (simp [*, errW_none, errW_some] <;> rfl), by repeat (first | (with_reducible first | exact HB.out | apply below_alloc | apply pw_below_drewN | apply below_drew1) | exact HB.out)⟩
                  · replace c37 := Bool.eq_false_iff.mpr c37
                    subst c37
                    have H1 : ((regress_Key.f kj28 a0).bind fun bt270 => ((letterlockref6_Key.f kj28 a0).bind fun bt272 => ((regress_Key.f kj28 t253).bind fun bt274 => ((letterlockref6_Key.f kj28 t253).bind fun bt276 => (if bt270.1.toList = bt272.1.toList then (if bt270.2 = bt272.2 then (if bt274.1.toList = bt276.1.toList then (some (bt274.2 == bt276.2)) else (some false)) else (some false)) else (some false)))))) = some r := by rw [if_neg (show ¬ (false = true) by decide)] at H; exact H
                    clear H
                    have H := H1
                    clear H1
                    replace H := Option.bind_eq_some_iff.mp H
                    obtain ⟨⟨t270, t271⟩, A380, H⟩ := H
                    replace H : ((letterlockref6_Key.f kj28 a0).bind fun bt272 => ((regress_Key.f kj28 t253).bind fun bt274 => ((letterlockref6_Key.f kj28 t253).bind fun bt276 => (if t270.toList = bt272.1.toList then (if t271 = bt272.2 then (if bt274.1.toList = bt276.1.toList then (some (bt274.2 == bt276.2)) else (some false)) else (some false)) else (some false))))) = some r := H
                    have A38 := Aside0.mk A380
                    clear A380
                    replace H := Option.bind_eq_some_iff.mp H
                    obtain ⟨⟨t272, t273⟩, A390, H⟩ := H
                    replace H : ((regress_Key.f kj28 t253).bind fun bt274 => ((letterlockref6_Key.f kj28 t253).bind fun bt276 => (if t270.toList = t272.toList then (if t271 = t273 then (if bt274.1.toList = bt276.1.toList then (some (bt274.2 == bt276.2)) else (some false)) else (some false)) else (some false)))) = some r := H
                    have A39 := Aside0.mk A390
                    clear A390
                    replace H := Option.bind_eq_some_iff.mp H
                    obtain ⟨⟨t274, t275⟩, A400, H⟩ := H
                    replace H : ((letterlockref6_Key.f kj28 t253).bind fun bt276 => (if t270.toList = t272.toList then (if t271 = t273 then (if t274.toList = bt276.1.toList then (some (t275 == bt276.2)) else (some false)) else (some false)) else (some false))) = some r := H
                    have A40 := Aside0.mk A400
                    clear A400
                    replace H := Option.bind_eq_some_iff.mp H
                    obtain ⟨⟨t276, t277⟩, A410, H⟩ := H
                    replace H : (if t270.toList = t272.toList then (if t271 = t273 then (if t274.toList = t276.toList then (some (t275 == t277)) else (some false)) else (some false)) else (some false)) = some r := H
                    have A41 := Aside0.mk A410
                    clear A410
                    by_cases c42 : t270.toList = t272.toList
                    · rw [if_pos c42] at H
                      have c42b0 : (t270.toList == t272.toList) = true := beq_iff_eq.mpr c42
                      have c42b1 : (t270.toList != t272.toList) = false := bne_eq_false_iff_eq.mpr c42
                      clear c42
                      by_cases c43 : t271 = t273
                      · rw [if_pos c43] at H
                        have c43b0 : (t271 == t273) = true := beq_iff_eq.mpr c43
                        have c43b1 : (t271 != t273) = false := bne_eq_false_iff_eq.mpr c43
                        clear c43
                        by_cases c44 : t274.toList = t276.toList
                        · rw [if_pos c44] at H
                          have c44b0 : (t274.toList == t276.toList) = true := beq_iff_eq.mpr c44
                          have c44b1 : (t274.toList != t276.toList) = false := bne_eq_false_iff_eq.mpr c44
                          clear c44
                          obtain rfl := Option.some.inj H
                          go_wp2_with (first | ((with_reducible refine gate_callee (f := 31) rfl ?_); refine goesL_ (some 116) rfl rfl Try.func31 (by kernel_rfl) rfl #[.string a0] rfl (by (try simp only [List.map_toArray, List.map_cons, List.map_nil]); first | done | rfl | (simp only [List.length_drop, List.length_take]; rfl)) ?_; (with_reducible refine (regress_Key.calls kj28 a0 t270 t271 _ A38.out).mono ?_); rintro e w45 ⟨rfl, hb⟩; refine ⟨_, rfl, ?_⟩; have n0_ := Aside0.mk (below_step (by repeat (first | (with_reducible first | exact HB.out | apply below_alloc | apply pw_below_drewN | apply below_drew1) | exact HB.out)) hb); clear HB; have HB := n0_; clear n0_; (try clear hb); (try clear hb2); (try clear hk); (try clear hi)) | ((with_reducible refine gate_callee (f := 32) rfl ?_); refine goesL_ (some 121) rfl rfl Try.func32 (by kernel_rfl) rfl #[.string a0] rfl (by (try simp only [List.map_toArray, List.map_cons, List.map_nil]); first | done | rfl | (simp only [List.length_drop, List.length_take]; rfl)) ?_; (with_reducible refine (letterlockref6_Key.calls kj28 a0 t272 t273 _ A39.out).mono ?_); rintro e w46 ⟨rfl, hb⟩; refine ⟨_, rfl, ?_⟩; have n0_ := Aside0.mk (below_step (by repeat (first | (with_reducible first | exact HB.out | apply below_alloc | apply pw_below_drewN | apply below_drew1) | exact HB.out)) hb); clear HB; have HB := n0_; clear n0_; (try clear hb); (try clear hb2); (try clear hk); (try clear hi)) | ((with_reducible refine gate_callee (f := 31) rfl ?_); refine goesL_ (some 126) rfl rfl Try.func31 (by kernel_rfl) rfl #[.string t253] rfl (by (try simp only [List.map_toArray, List.map_cons, List.map_nil]); first | done | rfl | (simp only [List.length_drop, List.length_take]; rfl)) ?_; (with_reducible refine (regress_Key.calls kj28 t253 t274 t275 _ A40.out).mono ?_); rintro e w47 ⟨rfl, hb⟩; refine ⟨_, rfl, ?_⟩; have n0_ := Aside0.mk (below_step (by repeat (first | (with_reducible first | exact HB.out | apply below_alloc | apply pw_below_drewN | apply below_drew1) | exact HB.out)) hb); clear HB; have HB := n0_; clear n0_; (try clear hb); (try clear hb2); (try clear hk); (try clear hi)) | ((with_reducible refine gate_callee (f := 32) rfl ?_); refine goesL_ (some 131) rfl rfl Try.func32 (by kernel_rfl) rfl #[.string t253] rfl (by (try simp only [List.map_toArray, List.map_cons, List.map_nil]); first | done | rfl | (simp only [List.length_drop, List.length_take]; rfl)) ?_; (with_reducible refine (letterlockref6_Key.calls kj28 t253 t276 t277 _ A41.out).mono ?_); rintro e w48 ⟨rfl, hb⟩; refine ⟨_, rfl, ?_⟩; have n0_ := Aside0.mk (below_step (by repeat (first | (with_reducible first | exact HB.out | apply below_alloc | apply pw_below_drewN | apply below_drew1) | exact HB.out)) hb); clear HB; have HB := n0_; clear n0_; (try clear hb); (try clear hb2); (try clear hk); (try clear hi)))
                          go_ret
                          exact ⟨by first | rfl | (simp [errW_none, errW_some] <;> rfl) | (simp [*, errW_none, errW_some] <;> rfl), by repeat (first | (with_reducible first | exact HB.out | apply below_alloc | apply pw_below_drewN | apply below_drew1) | exact HB.out)⟩
                        · rw [if_neg c44] at H
                          have c44b0 : (t274.toList == t276.toList) = false := beq_eq_false_iff_ne.mpr c44
                          have c44b1 : (t274.toList != t276.toList) = true := bne_iff_ne.mpr c44
                          obtain rfl := Option.some.inj H
                          go_wp2_with (first | ((with_reducible refine gate_callee (f := 31) rfl ?_); refine goesL_ (some 116) rfl rfl Try.func31 (by kernel_rfl) rfl #[.string a0] rfl (by (try simp only [List.map_toArray, List.map_cons, List.map_nil]); first | done | rfl | (simp only [List.length_drop, List.length_take]; rfl)) ?_; (with_reducible refine (regress_Key.calls kj28 a0 t270 t271 _ A38.out).mono ?_); rintro e w49 ⟨rfl, hb⟩; refine ⟨_, rfl, ?_⟩; have n0_ := Aside0.mk (below_step (by repeat (first | (with_reducible first | exact HB.out | apply below_alloc | apply pw_below_drewN | apply below_drew1) | exact HB.out)) hb); clear HB; have HB := n0_; clear n0_; (try clear hb); (try clear hb2); (try clear hk); (try clear hi)) | ((with_reducible refine gate_callee (f := 32) rfl ?_); refine goesL_ (some 121) rfl rfl Try.func32 (by kernel_rfl) rfl #[.string a0] rfl (by (try simp only [List.map_toArray, List.map_cons, List.map_nil]); first | done | rfl | (simp only [List.length_drop, List.length_take]; rfl)) ?_; (with_reducible refine (letterlockref6_Key.calls kj28 a0 t272 t273 _ A39.out).mono ?_); rintro e w50 ⟨rfl, hb⟩; refine ⟨_, rfl, ?_⟩; have n0_ := Aside0.mk (below_step (by repeat (first | (with_reducible first | exact HB.out | apply below_alloc | apply pw_below_drewN | apply below_drew1) | exact HB.out)) hb); clear HB; have HB := n0_; clear n0_; (try clear hb); (try clear hb2); (try clear hk); (try clear hi)) | ((with_reducible refine gate_callee (f := 31) rfl ?_); refine goesL_ (some 126) rfl rfl Try.func31 (by kernel_rfl) rfl #[.string t253] rfl (by (try simp only [List.map_toArray, List.map_cons, List.map_nil]); first | done | rfl | (simp only [List.length_drop, List.length_take]; rfl)) ?_; (with_reducible refine (regress_Key.calls kj28 t253 t274 t275 _ A40.out).mono ?_); rintro e w51 ⟨rfl, hb⟩; refine ⟨_, rfl, ?_⟩; have n0_ := Aside0.mk (below_step (by repeat (first | (with_reducible first | exact HB.out | apply below_alloc | apply pw_below_drewN | apply below_drew1) | exact HB.out)) hb); clear HB; have HB := n0_; clear n0_; (try clear hb); (try clear hb2); (try clear hk); (try clear hi)) | ((with_reducible refine gate_callee (f := 32) rfl ?_); refine goesL_ (some 131) rfl rfl Try.func32 (by kernel_rfl) rfl #[.string t253] rfl (by (try simp only [List.map_toArray, List.map_cons, List.map_nil]); first | done | rfl | (simp only [List.length_drop, List.length_take]; rfl)) ?_; (with_reducible refine (letterlockref6_Key.calls kj28 t253 t276 t277 _ A41.out).mono ?_); rintro e w52 ⟨rfl, hb⟩; refine ⟨_, rfl, ?_⟩; have n0_ := Aside0.mk (below_step (by repeat (first | (with_reducible first | exact HB.out | apply below_alloc | apply pw_below_drewN | apply below_drew1) | exact HB.out)) hb); clear HB; have HB := n0_; clear n0_; (try clear hb); (try clear hb2); (try clear hk); (try clear hi)))
                          go_ret
                          exact ⟨by first | rfl | (simp [errW_none, errW_some] <;> rfl) | (simp [*, errW_none, errW_some] <;> rfl), by repeat (first | (with_reducible first | exact HB.out | apply below_alloc | apply pw_below_drewN | apply below_drew1) | exact HB.out)⟩
                      · rw [if_neg c43] at H
                        have c43b0 : (t271 == t273) = false := beq_eq_false_iff_ne.mpr c43
                        have c43b1 : (t271 != t273) = true := bne_iff_ne.mpr c43
                        obtain rfl := Option.some.inj H
                        go_wp2_with (first | ((with_reducible refine gate_callee (f := 31) rfl ?_); refine goesL_ (some 116) rfl rfl Try.func31 (by kernel_rfl) rfl #[.string a0] rfl (by (try simp only [List.map_toArray, List.map_cons, List.map_nil]); first | done | rfl | (simp only [List.length_drop, List.length_take]; rfl)) ?_; (with_reducible refine (regress_Key.calls kj28 a0 t270 t271 _ A38.out).mono ?_); rintro e w53 ⟨rfl, hb⟩; refine ⟨_, rfl, ?_⟩; have n0_ := Aside0.mk (below_step (by repeat (first | (with_reducible first | exact HB.out | apply below_alloc | apply pw_below_drewN | apply below_drew1) | exact HB.out)) hb); clear HB; have HB := n0_; clear n0_; (try clear hb); (try clear hb2); (try clear hk); (try clear hi)) | ((with_reducible refine gate_callee (f := 32) rfl ?_); refine goesL_ (some 121) rfl rfl Try.func32 (by kernel_rfl) rfl #[.string a0] rfl (by (try simp only [List.map_toArray, List.map_cons, List.map_nil]); first | done | rfl | (simp only [List.length_drop, List.length_take]; rfl)) ?_; (with_reducible refine (letterlockref6_Key.calls kj28 a0 t272 t273 _ A39.out).mono ?_); rintro e w54 ⟨rfl, hb⟩; refine ⟨_, rfl, ?_⟩; have n0_ := Aside0.mk (below_step (by repeat (first | (with_reducible first | exact HB.out | apply below_alloc | apply pw_below_drewN | apply below_drew1) | exact HB.out)) hb); clear HB; have HB := n0_; clear n0_; (try clear hb); (try clear hb2); (try clear hk); (try clear hi)) | ((with_reducible refine gate_callee (f := 31) rfl ?_); refine goesL_ (some 126) rfl rfl Try.func31 (by kernel_rfl) rfl #[.string t253] rfl (by (try simp only [List.map_toArray, List.map_cons, List.map_nil]); first | done | rfl | (simp only [List.length_drop, List.length_take]; rfl)) ?_; (with_reducible refine (regress_Key.calls kj28 t253 t274 t275 _ A40.out).mono ?_); rintro e w55 ⟨rfl, hb⟩; refine ⟨_, rfl, ?_⟩; have n0_ := Aside0.mk (below_step (by repeat (first | (with_reducible first | exact HB.out | apply below_alloc | apply pw_below_drewN | apply below_drew1) | exact HB.out)) hb); clear HB; have HB := n0_; clear n0_; (try clear hb); (try clear hb2); (try clear hk); (try clear hi)) | ((with_reducible refine gate_callee (f := 32) rfl ?_); refine goesL_ (some 131) rfl rfl Try.func32 (by kernel_rfl) rfl #[.string t253] rfl (by (try simp only [List.map_toArray, List.map_cons, List.map_nil]); first | done | rfl | (simp only [List.length_drop, List.length_take]; rfl)) ?_; (with_reducible refine (letterlockref6_Key.calls kj28 t253 t276 t277 _ A41.out).mono ?_); rintro e w56 ⟨rfl, hb⟩; refine ⟨_, rfl, ?_⟩; have n0_ := Aside0.mk (below_step (by repeat (first | (with_reducible first | exact HB.out | apply below_alloc | apply pw_below_drewN | apply below_drew1) | exact HB.out)) hb); clear HB; have HB := n0_; clear n0_; (try clear hb); (try clear hb2); (try clear hk); (try clear hi)))
                        go_ret
                        exact ⟨by first | rfl | (simp [errW_none, errW_some] <;> rfl) | (simp [*, errW_none, errW_some] <;> rfl), by repeat (first | (with_reducible first | exact HB.out | apply below_alloc | apply pw_below_drewN | apply below_drew1) | exact HB.out)⟩
                    · rw [if_neg c42] at H
                      have c42b0 : (t270.toList == t272.toList) = false := beq_eq_false_iff_ne.mpr c42
                      have c42b1 : (t270.toList != t272.toList) = true := bne_iff_ne.mpr c42
                      obtain rfl := Option.some.inj H
                      go_wp2_with (first | ((with_reducible refine gate_callee (f := 31) rfl ?_); refine goesL_ (some 116) rfl rfl Try.func31 (by kernel_rfl) rfl #[.string a0] rfl (by (try simp only [List.map_toArray, List.map_cons, List.map_nil]); first | done | rfl | (simp only [List.length_drop, List.length_take]; rfl)) ?_; (with_reducible refine (regress_Key.calls kj28 a0 t270 t271 _ A38.out).mono ?_); rintro e w57 ⟨rfl, hb⟩; refine ⟨_, rfl, ?_⟩; have n0_ := Aside0.mk (below_step (by repeat (first | (with_reducible first | exact HB.out | apply below_alloc | apply pw_below_drewN | apply below_drew1) | exact HB.out)) hb); clear HB; have HB := n0_; clear n0_; (try clear hb); (try clear hb2); (try clear hk); (try clear hi)) | ((with_reducible refine gate_callee (f := 32) rfl ?_); refine goesL_ (some 121) rfl rfl Try.func32 (by kernel_rfl) rfl #[.string a0] rfl (by (try simp only [List.map_toArray, List.map_cons, List.map_nil]); first | done | rfl | (simp only [List.length_drop, List.length_take]; rfl)) ?_; (with_reducible refine (letterlockref6_Key.calls kj28 a0 t272 t273 _ A39.out).mono ?_); rintro e w58 ⟨rfl, hb⟩; refine ⟨_, rfl, ?_⟩; have n0_ := Aside0.mk (below_step (by repeat (first | (with_reducible first | exact HB.out | apply below_alloc | apply pw_below_drewN | apply below_drew1) | exact HB.out)) hb); clear HB; have HB := n0_; clear n0_; (try clear hb); (try clear hb2); (try clear hk); (try clear hi)) | ((with_reducible refine gate_callee (f := 31) rfl ?_); refine goesL_ (some 126) rfl rfl Try.func31 (by kernel_rfl) rfl #[.string t253] rfl (by (try simp only [List.map_toArray, List.map_cons, List.map_nil]); first | done | rfl | (simp only [List.length_drop, List.length_take]; rfl)) ?_; (with_reducible refine (regress_Key.calls kj28 t253 t274 t275 _ A40.out).mono ?_); rintro e w59 ⟨rfl, hb⟩; refine ⟨_, rfl, ?_⟩; have n0_ := Aside0.mk (below_step (by repeat (first | (with_reducible first | exact HB.out | apply below_alloc | apply pw_below_drewN | apply below_drew1) | exact HB.out)) hb); clear HB; have HB := n0_; clear n0_; (try clear hb); (try clear hb2); (try clear hk); (try clear hi)) | ((with_reducible refine gate_callee (f := 32) rfl ?_); refine goesL_ (some 131) rfl rfl Try.func32 (by kernel_rfl) rfl #[.string t253] rfl (by (try simp only [List.map_toArray, List.map_cons, List.map_nil]); first | done | rfl | (simp only [List.length_drop, List.length_take]; rfl)) ?_; (with_reducible refine (letterlockref6_Key.calls kj28 t253 t276 t277 _ A41.out).mono ?_); rintro e w60 ⟨rfl, hb⟩; refine ⟨_, rfl, ?_⟩; have n0_ := Aside0.mk (below_step (by repeat (first | (with_reducible first | exact HB.out | apply below_alloc | apply pw_below_drewN | apply below_drew1) | exact HB.out)) hb); clear HB; have HB := n0_; clear n0_; (try clear hb); (try clear hb2); (try clear hk); (try clear hi)))
                      go_ret
                      exact ⟨by first | rfl | (simp [errW_none, errW_some] <;> rfl) | (simp [*, errW_none, errW_some] <;> rfl), by repeat (first | (with_reducible first | exact HB.out | apply below_alloc | apply pw_below_drewN | apply below_drew1) | exact HB.out)⟩

/-- THE ONE PURE STATEMENT of letterlocklaw6_RegressTells: yours. -/
def letterlocklaw6_RegressTells.Pure : Prop := ∀ (a0 : ByteArray) (l1 : List Int) (a2 : Int) (a3 : Int), a0.size ≤ 140737488351232 → l1.length ≤ maxLen → l1.length * 8 ≤ 140737488351232 → (∀ x ∈ l1, (Lit.int .i64 x).wf = true) → (Lit.int .i64 a2).wf = true → (Lit.int .i64 a3).wf = true → ∃ k, letterlocklaw6_RegressTells.f k a0 l1 a2 a3 = some true
theorem letterlocklaw6_RegressTells.walk (P : letterlocklaw6_RegressTells.Pure) (a0 : ByteArray) (a1 : Option Addr) (len1 cap1 : Nat) (z1 : List Int) (a2 : Int) (a3 : Int) (w : World) (w0 : a0.size ≤ 140737488351232) (w1 : (a1 = none ∧ len1 = 0 ∧ cap1 = 0 ∧ z1 = []) ∨ ∃ x, a1 = some x ∧ len1 ≤ cap1 ∧ cap1 ≤ maxLen ∧ z1.length = cap1 ∧ (∀ i, i < z1.length → w.cell? (x.add i) = some (.int .i64 (z1.getD i 0))) ∧ ∀ n ∈ z1, (Lit.int .i64 n).wf = true) (y1 : len1 * 8 ≤ 140737488351232) (w2 : (Lit.int .i64 a2).wf = true) (w3 : (Lit.int .i64 a3).wf = true) :
    Calls Try.prog 6 #[.string a0, .slice a1 len1 cap1, .int .i64 a2, .int .i64 a3] w fun e w' => e = .returned (.bool true) ∧ Below w.heap.size w w' := by
  obtain ⟨l1, rfl, hr1, hm1, hw1, hc1⟩ := ReadsInt.ofRowC w1
  obtain ⟨k, h⟩ := P a0 l1 a2 a3 w0 hm1 y1 hw1 w2 w3
  refine (letterlocklaw6_RegressTells.calls k a0 _ _ l1 a2 a3 true w (Kd.C_of_reads (d := (0 : Int)) (h1 := fun _ => rfl) hr1) hc1 h).mono ?_
  rintro e w' ⟨rfl, hd⟩
  exact ⟨rfl, hd⟩

-- a stub: function 13 (term_Parts)

end Go.Proofs.Ytpgbhgpjfjeomaa.PA
