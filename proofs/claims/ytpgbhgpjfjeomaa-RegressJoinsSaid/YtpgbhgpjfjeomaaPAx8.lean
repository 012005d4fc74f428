-- printed by a program of this session (a copy of print.py that takes stubs) out of the translation; Lean checks it
import Derived.Test.YtpgbhgpjfjeomaaPAx0
import Derived.Test.YtpgbhgpjfjeomaaPAx1
import Derived.Test.YtpgbhgpjfjeomaaPAx5
namespace Go.Proofs.Ytpgbhgpjfjeomaa.PA
open Go.RowKit Go.Proofs.YtpgbhgpjfjeomaaW.PrintWords Go.Proofs.YtpgbhgpjfjeomaaW.PrintLast Go.Proofs.YtpgbhgpjfjeomaaW.PrintMore
attribute [local go_sem] max2_int min2_int max_two min_two max_three min_three max_four min_four   -- for this text's walks alone
set_option linter.unusedVariables false
set_option linter.unusedSimpArgs false

/-! ### letterlocklaw6_RegressJoins: function 3 -/
mutual
def letterlocklaw6_RegressJoins.j0 : Nat → ByteArray → Int → ByteArray → Int → ByteArray → Int → ByteArray → Int → Bool → Option (Bool)
  | 0, _, _, _, _, _, _, _, _, _ => none
  | k + 1, x8, x9, x11, x12, x13, x14, x15, x16, x62 => if x62 = true then (some false) else (if x12 = 0 then (if x14 = x16 then (if x13.toList = x15.toList then (if x16 = 0 then (letterlocklaw6_RegressJoins.j1 k x8 x9 x11 false) else (letterlocklaw6_RegressJoins.j1 k x8 x9 x11 (x16 != 10))) else (letterlocklaw6_RegressJoins.j1 k x8 x9 x11 true)) else (letterlocklaw6_RegressJoins.j1 k x8 x9 x11 true)) else (if x12 = 10 then (if x16 = 10 then (if x11.toList = ([] : List UInt8) then (some (x15.toList == ([] : List UInt8))) else (some false)) else (some false)) else (some false)))
def letterlocklaw6_RegressJoins.j1 : Nat → ByteArray → Int → ByteArray → Bool → Option (Bool)
  | 0, _, _, _, _ => none
  | k + 1, x8, x9, x11, x94 => if x94 = true then (some false) else (letterlocklaw6_RegressJoins.l0 k x8 x9 x11 0)
def letterlocklaw6_RegressJoins.l0 : Nat → ByteArray → Int → ByteArray → Int → Option (Bool)
  | 0, _, _, _, _ => none
  | k + 1, x8, x9, x11, x19 => if x19 < x9 then ((term_Parts.f x11).bind fun bt290 => (if bt290.2 = 0 then (if (bt290.1.length : Int) = 1 then ((term_Kind.f x11).bind fun t294 => (if t294 = 104 then (if 0 < (bt290.1.length : Int) then (letterlocklaw6_RegressJoins.l0 k x8 x9 (rdOf ByteArray.empty bt290.1 0) (wrap64 (x19 + 1))) else (none)) else (some false))) else (some false)) else (some false))) else (some (x11.toList == x8.toList))
end
def letterlocklaw6_RegressJoins.f (k : Nat) (l0 : List Int) (a1 : Int) (a2 : Int) : Option (Bool) := (letterlocklaw6_shown.f k).bind fun t278 => (if t278 = true then ((letterlocklaw6_grown.f k l0).bind fun t279 => ((letterlocklaw6_pick.f a1 24).bind fun t280 => ((letterlocklaw6_pick.f a2 24).bind fun t281 => ((regress_Back.f k t279 t280).bind fun bt282 => ((regress_Back.f k bt282.1 t281).bind fun bt284 => ((regress_Back.f k t279 (wrap64 (t280 + t281))).bind fun bt286 => ((regress_Back.f k t279 0).bind fun bt288 => (if bt288.2 = 0 then (letterlocklaw6_RegressJoins.j0 k t279 t280 bt282.1 bt282.2 bt284.1 bt284.2 bt286.1 bt286.2 (bt288.1.toList != t279.toList)) else (letterlocklaw6_RegressJoins.j0 k t279 t280 bt282.1 bt282.2 bt284.1 bt284.2 bt286.1 bt286.2 true))))))))) else (some false))
theorem letterlocklaw6_RegressJoins.mono_l : ∀ k, (∀ y0 y1 y2 y3 y4 y5 y6 y7 y8, LeO (letterlocklaw6_RegressJoins.j0 k y0 y1 y2 y3 y4 y5 y6 y7 y8) (letterlocklaw6_RegressJoins.j0 (k + 1) y0 y1 y2 y3 y4 y5 y6 y7 y8)) ∧ (∀ y0 y1 y2 y3, LeO (letterlocklaw6_RegressJoins.j1 k y0 y1 y2 y3) (letterlocklaw6_RegressJoins.j1 (k + 1) y0 y1 y2 y3)) ∧ (∀ y0 y1 y2 y3, LeO (letterlocklaw6_RegressJoins.l0 k y0 y1 y2 y3) (letterlocklaw6_RegressJoins.l0 (k + 1) y0 y1 y2 y3))
  | 0 => ⟨fun _ _ _ _ _ _ _ _ _ r h => by simp [letterlocklaw6_RegressJoins.j0] at h, fun _ _ _ _ r h => by simp [letterlocklaw6_RegressJoins.j1] at h, fun _ _ _ _ r h => by simp [letterlocklaw6_RegressJoins.l0] at h⟩
  | k + 1 => by
    obtain ⟨ih0, ih1, ih2⟩ := letterlocklaw6_RegressJoins.mono_l k
    refine ⟨?_, ?_, ?_⟩
    · intro y0 y1 y2 y3 y4 y5 y6 y7 y8
      unfold letterlocklaw6_RegressJoins.j0
      repeat' first
      | (with_reducible exact ih0 _ _ _ _ _ _ _ _ _)
      | (with_reducible exact ih1 _ _ _ _)
      | (with_reducible exact ih2 _ _ _ _)
      | (with_reducible exact letterlocklaw6_grown.mono _ _)
      | (with_reducible exact letterlocklaw6_shown.mono _)
      | (with_reducible exact regress_Back.mono _ _ _)
      | (with_reducible exact LeO.refl _)
      | (with_reducible exact LeO.none _)
      | (with_reducible refine LeO.ite ?_ ?_)
      | (with_reducible refine LeO.bind ?_ (fun _ => ?_))
      | exact ih0 _ _ _ _ _ _ _ _ _
      | exact ih1 _ _ _ _
      | exact ih2 _ _ _ _
      | exact letterlocklaw6_grown.mono _ _
      | exact letterlocklaw6_shown.mono _
      | exact regress_Back.mono _ _ _
      | exact LeO.none _
      | refine LeO.ite ?_ ?_
      | refine LeO.bind ?_ (fun _ => ?_)
    · intro y0 y1 y2 y3
      unfold letterlocklaw6_RegressJoins.j1
      repeat' first
      | (with_reducible exact ih0 _ _ _ _ _ _ _ _ _)
      | (with_reducible exact ih1 _ _ _ _)
      | (with_reducible exact ih2 _ _ _ _)
      | (with_reducible exact letterlocklaw6_grown.mono _ _)
      | (with_reducible exact letterlocklaw6_shown.mono _)
      | (with_reducible exact regress_Back.mono _ _ _)
      | (with_reducible exact LeO.refl _)
      | (with_reducible exact LeO.none _)
      | (with_reducible refine LeO.ite ?_ ?_)
      | (with_reducible refine LeO.bind ?_ (fun _ => ?_))
      | exact ih0 _ _ _ _ _ _ _ _ _
      | exact ih1 _ _ _ _
      | exact ih2 _ _ _ _
      | exact letterlocklaw6_grown.mono _ _
      | exact letterlocklaw6_shown.mono _
      | exact regress_Back.mono _ _ _
      | exact LeO.none _
      | refine LeO.ite ?_ ?_
      | refine LeO.bind ?_ (fun _ => ?_)
    · intro y0 y1 y2 y3
      unfold letterlocklaw6_RegressJoins.l0
      repeat' first
      | (with_reducible exact ih0 _ _ _ _ _ _ _ _ _)
      | (with_reducible exact ih1 _ _ _ _)
      | (with_reducible exact ih2 _ _ _ _)
      | (with_reducible exact letterlocklaw6_grown.mono _ _)
      | (with_reducible exact letterlocklaw6_shown.mono _)
      | (with_reducible exact regress_Back.mono _ _ _)
      | (with_reducible exact LeO.refl _)
      | (with_reducible exact LeO.none _)
      | (with_reducible refine LeO.ite ?_ ?_)
      | (with_reducible refine LeO.bind ?_ (fun _ => ?_))
      | exact ih0 _ _ _ _ _ _ _ _ _
      | exact ih1 _ _ _ _
      | exact ih2 _ _ _ _
      | exact letterlocklaw6_grown.mono _ _
      | exact letterlocklaw6_shown.mono _
      | exact regress_Back.mono _ _ _
      | exact LeO.none _
      | refine LeO.ite ?_ ?_
      | refine LeO.bind ?_ (fun _ => ?_)
theorem letterlocklaw6_RegressJoins.mono : ∀ a0 a1 a2 k, LeO (letterlocklaw6_RegressJoins.f k a0 a1 a2) (letterlocklaw6_RegressJoins.f (k + 1) a0 a1 a2) := by
  intro a0 a1 a2 k
  obtain ⟨ih0, ih1, ih2⟩ := letterlocklaw6_RegressJoins.mono_l k
  unfold letterlocklaw6_RegressJoins.f
  repeat' first
      | (with_reducible exact ih0 _ _ _ _ _ _ _ _ _)
      | (with_reducible exact ih1 _ _ _ _)
      | (with_reducible exact ih2 _ _ _ _)
      | (with_reducible exact letterlocklaw6_grown.mono _ _)
      | (with_reducible exact letterlocklaw6_shown.mono _)
      | (with_reducible exact regress_Back.mono _ _ _)
      | (with_reducible exact LeO.refl _)
      | (with_reducible exact LeO.none _)
      | (with_reducible refine LeO.ite ?_ ?_)
      | (with_reducible refine LeO.bind ?_ (fun _ => ?_))
      | exact ih0 _ _ _ _ _ _ _ _ _
      | exact ih1 _ _ _ _
      | exact ih2 _ _ _ _
      | exact letterlocklaw6_grown.mono _ _
      | exact letterlocklaw6_shown.mono _
      | exact regress_Back.mono _ _ _
      | exact LeO.none _
      | refine LeO.ite ?_ ?_
      | refine LeO.bind ?_ (fun _ => ?_)
set_option maxHeartbeats 8000000 in
set_option maxRecDepth 100000 in
theorem letterlocklaw6_RegressJoins.calls (k : Nat) (A0 : Option Addr) (c0 : Nat) (l0 : List Int) (a1 : Int) (a2 : Int) (r : Bool) (w : World) (hr0 : Kd.C (Kd.int .i64) w A0 l0.length l0) (hc0 : l0.length ≤ c0) (h : letterlocklaw6_RegressJoins.f k l0 a1 a2 = some r) :
    Calls Try.prog 3 #[.slice A0 l0.length c0, .int .i64 a1, .int .i64 a2] w fun e w' => e = .returned (.bool r) ∧ Below w.heap.size w w' := by
  have HR0 := Aside0.mk hr0
  have HC0 := Aside0.mk hc0
  clear hr0 hc0
  have HB := Aside0.mk (Below.refl w.heap.size w)
  have H : ((letterlocklaw6_shown.f k).bind fun t278 => (if t278 = true then ((letterlocklaw6_grown.f k l0).bind fun t279 => ((letterlocklaw6_pick.f a1 24).bind fun t280 => ((letterlocklaw6_pick.f a2 24).bind fun t281 => ((regress_Back.f k t279 t280).bind fun bt282 => ((regress_Back.f k bt282.1 t281).bind fun bt284 => ((regress_Back.f k t279 (wrap64 (t280 + t281))).bind fun bt286 => ((regress_Back.f k t279 0).bind fun bt288 => (if bt288.2 = 0 then (letterlocklaw6_RegressJoins.j0 k t279 t280 bt282.1 bt282.2 bt284.1 bt284.2 bt286.1 bt286.2 (bt288.1.toList != t279.toList)) else (letterlocklaw6_RegressJoins.j0 k t279 t280 bt282.1 bt282.2 bt284.1 bt284.2 bt286.1 bt286.2 true))))))))) else (some false))) = some r := h
  clear h
  replace H := Option.bind_eq_some_iff.mp H
  obtain ⟨t278, A40, H⟩ := H
  replace H : (if t278 = true then ((letterlocklaw6_grown.f k l0).bind fun t279 => ((letterlocklaw6_pick.f a1 24).bind fun t280 => ((letterlocklaw6_pick.f a2 24).bind fun t281 => ((regress_Back.f k t279 t280).bind fun bt282 => ((regress_Back.f k bt282.1 t281).bind fun bt284 => ((regress_Back.f k t279 (wrap64 (t280 + t281))).bind fun bt286 => ((regress_Back.f k t279 0).bind fun bt288 => (if bt288.2 = 0 then (letterlocklaw6_RegressJoins.j0 k t279 t280 bt282.1 bt282.2 bt284.1 bt284.2 bt286.1 bt286.2 (bt288.1.toList != t279.toList)) else (letterlocklaw6_RegressJoins.j0 k t279 t280 bt282.1 bt282.2 bt284.1 bt284.2 bt286.1 bt286.2 true))))))))) else (some false)) = some r := H
  have A4 := Aside0.mk A40
  clear A40
  by_cases c5 : t278 = true
  · subst c5
    have H1 : ((letterlocklaw6_grown.f k l0).bind fun t279 => ((letterlocklaw6_pick.f a1 24).bind fun t280 => ((letterlocklaw6_pick.f a2 24).bind fun t281 => ((regress_Back.f k t279 t280).bind fun bt282 => ((regress_Back.f k bt282.1 t281).bind fun bt284 => ((regress_Back.f k t279 (wrap64 (t280 + t281))).bind fun bt286 => ((regress_Back.f k t279 0).bind fun bt288 => (if bt288.2 = 0 then (letterlocklaw6_RegressJoins.j0 k t279 t280 bt282.1 bt282.2 bt284.1 bt284.2 bt286.1 bt286.2 (bt288.1.toList != t279.toList)) else (letterlocklaw6_RegressJoins.j0 k t279 t280 bt282.1 bt282.2 bt284.1 bt284.2 bt286.1 bt286.2 true))))))))) = some r := by rw [if_pos rfl] at H; exact H
    clear H
    have H := H1
    clear H1
    replace H := Option.bind_eq_some_iff.mp H
    obtain ⟨t279, A60, H⟩ := H
    replace H : ((letterlocklaw6_pick.f a1 24).bind fun t280 => ((letterlocklaw6_pick.f a2 24).bind fun t281 => ((regress_Back.f k t279 t280).bind fun bt282 => ((regress_Back.f k bt282.1 t281).bind fun bt284 => ((regress_Back.f k t279 (wrap64 (t280 + t281))).bind fun bt286 => ((regress_Back.f k t279 0).bind fun bt288 => (if bt288.2 = 0 then (letterlocklaw6_RegressJoins.j0 k t279 t280 bt282.1 bt282.2 bt284.1 bt284.2 bt286.1 bt286.2 (bt288.1.toList != t279.toList)) else (letterlocklaw6_RegressJoins.j0 k t279 t280 bt282.1 bt282.2 bt284.1 bt284.2 bt286.1 bt286.2 true)))))))) = some r := H
    have A6 := Aside0.mk A60
    clear A60
    replace H := Option.bind_eq_some_iff.mp H
    obtain ⟨t280, A70, H⟩ := H
    replace H : ((letterlocklaw6_pick.f a2 24).bind fun t281 => ((regress_Back.f k t279 t280).bind fun bt282 => ((regress_Back.f k bt282.1 t281).bind fun bt284 => ((regress_Back.f k t279 (wrap64 (t280 + t281))).bind fun bt286 => ((regress_Back.f k t279 0).bind fun bt288 => (if bt288.2 = 0 then (letterlocklaw6_RegressJoins.j0 k t279 t280 bt282.1 bt282.2 bt284.1 bt284.2 bt286.1 bt286.2 (bt288.1.toList != t279.toList)) else (letterlocklaw6_RegressJoins.j0 k t279 t280 bt282.1 bt282.2 bt284.1 bt284.2 bt286.1 bt286.2 true))))))) = some r := H
    have A7 := Aside0.mk A70
    clear A70
    replace H := Option.bind_eq_some_iff.mp H
    obtain ⟨t281, A80, H⟩ := H
    replace H : ((regress_Back.f k t279 t280).bind fun bt282 => ((regress_Back.f k bt282.1 t281).bind fun bt284 => ((regress_Back.f k t279 (wrap64 (t280 + t281))).bind fun bt286 => ((regress_Back.f k t279 0).bind fun bt288 => (if bt288.2 = 0 then (letterlocklaw6_RegressJoins.j0 k t279 t280 bt282.1 bt282.2 bt284.1 bt284.2 bt286.1 bt286.2 (bt288.1.toList != t279.toList)) else (letterlocklaw6_RegressJoins.j0 k t279 t280 bt282.1 bt282.2 bt284.1 bt284.2 bt286.1 bt286.2 true)))))) = some r := H
    have A8 := Aside0.mk A80
    clear A80
    replace H := Option.bind_eq_some_iff.mp H
    obtain ⟨⟨t282, t283⟩, A90, H⟩ := H
    replace H : ((regress_Back.f k t282 t281).bind fun bt284 => ((regress_Back.f k t279 (wrap64 (t280 + t281))).bind fun bt286 => ((regress_Back.f k t279 0).bind fun bt288 => (if bt288.2 = 0 then (letterlocklaw6_RegressJoins.j0 k t279 t280 t282 t283 bt284.1 bt284.2 bt286.1 bt286.2 (bt288.1.toList != t279.toList)) else (letterlocklaw6_RegressJoins.j0 k t279 t280 t282 t283 bt284.1 bt284.2 bt286.1 bt286.2 true))))) = some r := H
    have A9 := Aside0.mk A90
    clear A90
    replace H := Option.bind_eq_some_iff.mp H
    obtain ⟨⟨t284, t285⟩, A100, H⟩ := H
    replace H : ((regress_Back.f k t279 (wrap64 (t280 + t281))).bind fun bt286 => ((regress_Back.f k t279 0).bind fun bt288 => (if bt288.2 = 0 then (letterlocklaw6_RegressJoins.j0 k t279 t280 t282 t283 t284 t285 bt286.1 bt286.2 (bt288.1.toList != t279.toList)) else (letterlocklaw6_RegressJoins.j0 k t279 t280 t282 t283 t284 t285 bt286.1 bt286.2 true)))) = some r := H
    have A10 := Aside0.mk A100
    clear A100
    replace H := Option.bind_eq_some_iff.mp H
    obtain ⟨⟨t286, t287⟩, A110, H⟩ := H
    replace H : ((regress_Back.f k t279 0).bind fun bt288 => (if bt288.2 = 0 then (letterlocklaw6_RegressJoins.j0 k t279 t280 t282 t283 t284 t285 t286 t287 (bt288.1.toList != t279.toList)) else (letterlocklaw6_RegressJoins.j0 k t279 t280 t282 t283 t284 t285 t286 t287 true))) = some r := H
    have A11 := Aside0.mk A110
    clear A110
    replace H := Option.bind_eq_some_iff.mp H
    obtain ⟨⟨t288, t289⟩, A120, H⟩ := H
    replace H : (if t289 = 0 then (letterlocklaw6_RegressJoins.j0 k t279 t280 t282 t283 t284 t285 t286 t287 (t288.toList != t279.toList)) else (letterlocklaw6_RegressJoins.j0 k t279 t280 t282 t283 t284 t285 t286 t287 true)) = some r := H
    have A12 := Aside0.mk A120
    clear A120
    have HC13 := Aside0.mk H
    clear H
    go_enter Try.func3, Try.ntmps3
    go_upto_region 11 with (first | ((with_reducible refine gate_callee (f := 9) rfl ?_); refine goesL_ (some 22) rfl rfl Try.func9 (by kernel_rfl) rfl #[] rfl (by (try simp only [List.map_toArray, List.map_cons, List.map_nil]); first | done | rfl | (simp only [List.length_drop, List.length_take]; rfl)) ?_; (with_reducible refine (letterlocklaw6_shown.calls k  true _ A4.out).mono ?_); rintro e w14 ⟨rfl, hb⟩; refine ⟨_, rfl, ?_⟩; have n0_ := Aside0.mk (below_step (by repeat (first | (with_reducible first | exact HB.out | apply below_alloc | apply pw_below_drewN | apply below_drew1) | exact HB.out)) hb); clear HB; have HB := n0_; clear n0_; (try clear hb); (try clear hb2); (try clear hk); (try clear hi)) | ((with_reducible refine gate_callee (f := 10) rfl ?_); refine goesL_ (some 26) rfl rfl Try.func10 (by kernel_rfl) rfl #[.slice A0 l0.length c0] rfl (by (try simp only [List.map_toArray, List.map_cons, List.map_nil]); first | done | rfl | (simp only [List.length_drop, List.length_take]; rfl)) ?_; (with_reducible refine (letterlocklaw6_grown.calls k _ _ l0 t279 _ ?side1 ?side2 A6.out).mono ?_); (case side1 => repeat (first | exact (Kd.C_below HR0.out HB.out) | (with_reducible refine Kd.C_alloc ?_ _) | (with_reducible refine Kd.C_drewN ?_ _) | (with_reducible refine Kd.C_drew ?_))); (case side2 => exact HC0.out); rintro e w15 ⟨rfl, hb⟩; refine ⟨_, rfl, ?_⟩; have n0_ := Aside0.mk (below_step (by repeat (first | (with_reducible first | exact HB.out | apply below_alloc | apply pw_below_drewN | apply below_drew1) | exact HB.out)) hb); clear HB; have HB := n0_; clear n0_; (try clear hb); (try clear hb2); (try clear hk); (try clear hi)) | ((with_reducible refine gate_callee (f := 11) rfl ?_); refine goesL_ (some 28) rfl rfl Try.func11 (by kernel_rfl) rfl #[.int .i64 a1, .int .i64 24] rfl (by (try simp only [List.map_toArray, List.map_cons, List.map_nil]); first | done | rfl | (simp only [List.length_drop, List.length_take]; rfl)) ?_; (with_reducible refine (letterlocklaw6_pick.calls a1 24 t280 _ A7.out).mono ?_); rintro e w' ⟨rfl, ⟨nd, rfl⟩⟩; refine ⟨_, rfl, ?_⟩) | ((with_reducible refine gate_callee (f := 11) rfl ?_); refine goesL_ (some 30) rfl rfl Try.func11 (by kernel_rfl) rfl #[.int .i64 a2, .int .i64 24] rfl (by (try simp only [List.map_toArray, List.map_cons, List.map_nil]); first | done | rfl | (simp only [List.length_drop, List.length_take]; rfl)) ?_; (with_reducible refine (letterlocklaw6_pick.calls a2 24 t281 _ A8.out).mono ?_); rintro e w' ⟨rfl, ⟨nd, rfl⟩⟩; refine ⟨_, rfl, ?_⟩) | ((with_reducible refine gate_callee (f := 12) rfl ?_); refine goesL_ (some 34) rfl rfl Try.func12 (by kernel_rfl) rfl #[.string t279, .int .i64 t280] rfl (by (try simp only [List.map_toArray, List.map_cons, List.map_nil]); first | done | rfl | (simp only [List.length_drop, List.length_take]; rfl)) ?_; (with_reducible refine (regress_Back.calls k t279 t280 t282 t283 _ A9.out).mono ?_); rintro e w16 ⟨rfl, hb⟩; refine ⟨_, rfl, ?_⟩; have n0_ := Aside0.mk (below_step (by repeat (first | (with_reducible first | exact HB.out | apply below_alloc | apply pw_below_drewN | apply below_drew1) | exact HB.out)) hb); clear HB; have HB := n0_; clear n0_; (try clear hb); (try clear hb2); (try clear hk); (try clear hi)) | ((with_reducible refine gate_callee (f := 12) rfl ?_); refine goesL_ (some 40) rfl rfl Try.func12 (by kernel_rfl) rfl #[.string t282, .int .i64 t281] rfl (by (try simp only [List.map_toArray, List.map_cons, List.map_nil]); first | done | rfl | (simp only [List.length_drop, List.length_take]; rfl)) ?_; (with_reducible refine (regress_Back.calls k t282 t281 t284 t285 _ A10.out).mono ?_); rintro e w17 ⟨rfl, hb⟩; refine ⟨_, rfl, ?_⟩; have n0_ := Aside0.mk (below_step (by repeat (first | (with_reducible first | exact HB.out | apply below_alloc | apply pw_below_drewN | apply below_drew1) | exact HB.out)) hb); clear HB; have HB := n0_; clear n0_; (try clear hb); (try clear hb2); (try clear hk); (try clear hi)) | ((with_reducible refine gate_callee (f := 12) rfl ?_); refine goesL_ (some 48) rfl rfl Try.func12 (by kernel_rfl) rfl #[.string t279, .int .i64 (wrap64 (t280 + t281))] rfl (by (try simp only [List.map_toArray, List.map_cons, List.map_nil]); first | done | rfl | (simp only [List.length_drop, List.length_take]; rfl)) ?_; (with_reducible refine (regress_Back.calls k t279 (wrap64 (t280 + t281)) t286 t287 _ A11.out).mono ?_); rintro e w18 ⟨rfl, hb⟩; refine ⟨_, rfl, ?_⟩; have n0_ := Aside0.mk (below_step (by repeat (first | (with_reducible first | exact HB.out | apply below_alloc | apply pw_below_drewN | apply below_drew1) | exact HB.out)) hb); clear HB; have HB := n0_; clear n0_; (try clear hb); (try clear hb2); (try clear hk); (try clear hi)) | ((with_reducible refine gate_callee (f := 12) rfl ?_); refine goesL_ (some 53) rfl rfl Try.func12 (by kernel_rfl) rfl #[.string t279, .int .i64 0] rfl (by (try simp only [List.map_toArray, List.map_cons, List.map_nil]); first | done | rfl | (simp only [List.length_drop, List.length_take]; rfl)) ?_; (with_reducible refine (regress_Back.calls k t279 0 t288 t289 _ A12.out).mono ?_); rintro e w19 ⟨rfl, hb⟩; refine ⟨_, rfl, ?_⟩; have n0_ := Aside0.mk (below_step (by repeat (first | (with_reducible first | exact HB.out | apply below_alloc | apply pw_below_drewN | apply below_drew1) | exact HB.out)) hb); clear HB; have HB := n0_; clear n0_; (try clear hb); (try clear hb2); (try clear hk); (try clear hi)))
    (try simp only [Act.put, List.setIfInBounds_toArray, List.set_cons_zero, List.set_cons_succ])
    go_cut [62] (fun v62 wc => ∃ (kq : Nat) (x62_12 : Bool), v62 = .bool x62_12 ∧ Aside0 (letterlocklaw6_RegressJoins.j0 kq t279 t280 t282 t283 t284 t285 t286 t287 x62_12 = some r) ∧ Aside0 (kq ≤ k) ∧ Aside0 (Below w.heap.size w wc))
    case first =>
      have H := HC13.out
      clear HC13
      by_cases c20 : t289 = 0
      · rw [if_pos c20] at H
        have c20b0 : (t289 == 0) = true := beq_iff_eq.mpr c20
        have c20b1 : (t289 != 0) = false := bne_eq_false_iff_eq.mpr c20
        clear c20
        (first | rw [c20b0] | (simp only [i64_w, i32_w]; rw [c20b0]) | skip)
        have H' := Aside0.mk H
        clear H
        go_wp2
        go_meet
        case rel => exact ⟨_, ((t288.toList != t279.toList)), (by first | rfl | (simp; done) | (simp [*]; done)), H', ⟨by first | omega | exact Nat.le_refl _⟩, ⟨by repeat (first | (with_reducible first | exact HB.out | apply below_alloc | apply pw_below_drewN | apply below_drew1) | exact HB.out)⟩⟩
      · rw [if_neg c20] at H
        have c20b0 : (t289 == 0) = false := beq_eq_false_iff_ne.mpr c20
        have c20b1 : (t289 != 0) = true := bne_iff_ne.mpr c20
        (first | rw [c20b0] | (simp only [i64_w, i32_w]; rw [c20b0]) | skip)
        have H' := Aside0.mk H
        clear H
        go_wp2
        go_meet
        case rel => exact ⟨_, (true), (by first | rfl | (simp; done) | (simp [*]; done)), H', ⟨by first | omega | exact Nat.le_refl _⟩, ⟨by repeat (first | (with_reducible first | exact HB.out | apply below_alloc | apply pw_below_drewN | apply below_drew1) | exact HB.out)⟩⟩
    case rest =>
      clear HC13
      try clear c1
      try clear c2
      try clear p2
      try clear c3
      try clear c5
      try clear p6
      try clear c9
      try clear c10
      try clear c11
      try clear c12
      try clear c20
      try clear c20b0
      try clear c20b1
      obtain ⟨kq, x62_12, rfl, HA, HJ12, HB⟩ := hcut
      cases kq with
      | zero => exact absurd HA.out (by simp [letterlocklaw6_RegressJoins.j0])
      | succ kj12 =>
        have H := HA.out
        clear HA
        simp only [letterlocklaw6_RegressJoins.j0] at H
        by_cases c21 : x62_12 = true
        · subst c21
          have H1 : (some false) = some r := by rw [if_pos rfl] at H; exact H
          clear H
          have H := H1
          clear H1
          obtain rfl := Option.some.inj H
          go_wp2
          go_ret
          exact ⟨by first | rfl | (simp [errW_none, errW_some] <;> rfl) | (simp [*, errW_none, errW_some] <;> rfl), by repeat (first | (with_reducible first | exact HB.out | apply below_alloc | apply pw_below_drewN | apply below_drew1) | exact HB.out)⟩
        · replace c21 := Bool.eq_false_iff.mpr c21
          subst c21
          have H1 : (if t283 = 0 then (if t285 = t287 then (if t284.toList = t286.toList then (if t287 = 0 then (letterlocklaw6_RegressJoins.j1 kj12 t279 t280 t282 false) else (letterlocklaw6_RegressJoins.j1 kj12 t279 t280 t282 (t287 != 10))) else (letterlocklaw6_RegressJoins.j1 kj12 t279 t280 t282 true)) else (letterlocklaw6_RegressJoins.j1 kj12 t279 t280 t282 true)) else (if t283 = 10 then (if t287 = 10 then (if t282.toList = ([] : List UInt8) then (some (t286.toList == ([] : List UInt8))) else (some false)) else (some false)) else (some false))) = some r := by rw [if_neg (show ¬ (false = true) by decide)] at H; exact H
          clear H
          have H := H1
          clear H1
          by_cases c22 : t283 = 0
          · rw [if_pos c22] at H
            have c22b0 : (t283 == 0) = true := beq_iff_eq.mpr c22
            have c22b1 : (t283 != 0) = false := bne_eq_false_iff_eq.mpr c22
            clear c22
            have HC23 := Aside0.mk H
            clear H
            go_upto_region 15 with (fail)
            go_cut [94] (fun v94 wc => ∃ (kq : Nat) (x94_22 : Bool), v94 = .bool x94_22 ∧ Aside0 (letterlocklaw6_RegressJoins.j1 kq t279 t280 t282 x94_22 = some r) ∧ Aside0 (kq ≤ kj12) ∧ Aside0 (Below w.heap.size w wc))
            case first =>
              have H := HC23.out
              clear HC23
              by_cases c24 : t285 = t287
              · rw [if_pos c24] at H
                have c24b0 : (t285 == t287) = true := beq_iff_eq.mpr c24
                have c24b1 : (t285 != t287) = false := bne_eq_false_iff_eq.mpr c24
                clear c24
                (first | rw [c24b0] | (simp only [i64_w, i32_w]; rw [c24b0]) | skip)
                by_cases c25 : t284.toList = t286.toList
                · rw [if_pos c25] at H
                  have c25b0 : (t284.toList == t286.toList) = true := beq_iff_eq.mpr c25
                  have c25b1 : (t284.toList != t286.toList) = false := bne_eq_false_iff_eq.mpr c25
                  clear c25
                  by_cases c26 : t287 = 0
                  · rw [if_pos c26] at H
                    have c26b0 : (t287 == 0) = true := beq_iff_eq.mpr c26
                    have c26b1 : (t287 != 0) = false := bne_eq_false_iff_eq.mpr c26
                    clear c26
                    have H' := Aside0.mk H
                    clear H
                    go_wp2
                    go_meet
                    case rel => exact ⟨_, (false), (by first | rfl | (simp; done) | (simp [*]; done)), H', ⟨by have := HJ12.out; first | omega | exact Nat.le_refl _⟩, ⟨by repeat (first | (with_reducible first | exact HB.out | apply below_alloc | apply pw_below_drewN | apply below_drew1) | exact HB.out)⟩⟩
                  · rw [if_neg c26] at H
                    have c26b0 : (t287 == 0) = false := beq_eq_false_iff_ne.mpr c26
                    have c26b1 : (t287 != 0) = true := bne_iff_ne.mpr c26
                    have H' := Aside0.mk H
                    clear H
                    go_wp2
                    go_meet
                    case rel => exact ⟨_, ((t287 != 10)), (by first | rfl | (simp; done) | (simp [*]; done)), H', ⟨by have := HJ12.out; first | omega | exact Nat.le_refl _⟩, ⟨by repeat (first | (with_reducible first | exact HB.out | apply below_alloc | apply pw_below_drewN | apply below_drew1) | exact HB.out)⟩⟩
                · rw [if_neg c25] at H
                  have c25b0 : (t284.toList == t286.toList) = false := beq_eq_false_iff_ne.mpr c25
                  have c25b1 : (t284.toList != t286.toList) = true := bne_iff_ne.mpr c25
                  have H' := Aside0.mk H
                  clear H
                  go_wp2
                  go_meet
                  case rel => exact ⟨_, (true), (by first | rfl | (simp; done) | (simp [*]; done)), H', ⟨by have := HJ12.out; first | omega | exact Nat.le_refl _⟩, ⟨by repeat (first | (with_reducible first | exact HB.out | apply below_alloc | apply pw_below_drewN | apply below_drew1) | exact HB.out)⟩⟩
              · rw [if_neg c24] at H
                have c24b0 : (t285 == t287) = false := beq_eq_false_iff_ne.mpr c24
                have c24b1 : (t285 != t287) = true := bne_iff_ne.mpr c24
                (first | rw [c24b0] | (simp only [i64_w, i32_w]; rw [c24b0]) | skip)
                have H' := Aside0.mk H
                clear H
                go_wp2
                go_meet
                case rel => exact ⟨_, (true), (by first | rfl | (simp; done) | (simp [*]; done)), H', ⟨by have := HJ12.out; first | omega | exact Nat.le_refl _⟩, ⟨by repeat (first | (with_reducible first | exact HB.out | apply below_alloc | apply pw_below_drewN | apply below_drew1) | exact HB.out)⟩⟩
            case rest =>
              clear HC23
              try clear c1
              try clear c2
              try clear p2
              try clear c3
              try clear c5
              try clear p6
              try clear c9
              try clear c10
              try clear c11
              try clear c12
              try clear c20
              try clear c20b0
              try clear c20b1
              try clear c21
              try clear c22
              try clear c22b0
              try clear c22b1
              try clear c24
              try clear c24b0
              try clear c24b1
              try clear c25
              try clear c25b0
              try clear c25b1
              try clear c26
              try clear c26b0
              try clear c26b1
              try clear p2
              try clear p6
              obtain ⟨kq, x94_22, rfl, HA, HJ22, HB⟩ := hcut
              cases kq with
              | zero => exact absurd HA.out (by simp [letterlocklaw6_RegressJoins.j1])
              | succ kj22 =>
                have H := HA.out
                clear HA
                simp only [letterlocklaw6_RegressJoins.j1] at H
                by_cases c27 : x94_22 = true
                · subst c27
                  have H1 : (some false) = some r := by rw [if_pos rfl] at H; exact H
                  clear H
                  have H := H1
                  clear H1
                  obtain rfl := Option.some.inj H
                  go_wp2
                  go_ret
                  exact ⟨by first | rfl | (simp [errW_none, errW_some] <;> rfl) | (simp [*, errW_none, errW_some] <;> rfl), by repeat (first | (with_reducible first | exact HB.out | apply below_alloc | apply pw_below_drewN | apply below_drew1) | exact HB.out)⟩
                · replace c27 := Bool.eq_false_iff.mpr c27
                  subst c27
                  have H1 : (letterlocklaw6_RegressJoins.l0 kj22 t279 t280 t282 0) = some r := by rw [if_neg (show ¬ (false = true) by decide)] at H; exact H
                  clear H
                  have H := H1
                  clear H1
                  have H' := Aside0.mk H
                  clear H
                  go_wp2
                  go_loopg [11, 19] kj22 (fun kq v11 v19 w' => ∃ (x11_3 : ByteArray) (x19_3 : Int), v11 = .string x11_3 ∧ v19 = .int .i64 x19_3 ∧ Aside0 (letterlocklaw6_RegressJoins.l0 kq t279 t280 x11_3 x19_3 = some r) ∧ Aside0 (kq ≤ kj22) ∧ Aside0 (Below w.heap.size w w'))
                  case atStart => exact ⟨(t282), (0), (by first | rfl | (simp; done) | (simp [*]; done)), (by first | rfl | (simp; done) | (simp [*]; done)), H', ⟨Nat.le_refl _⟩, ⟨by repeat (first | (with_reducible first | exact HB.out | apply below_alloc | apply pw_below_drewN | apply below_drew1) | exact HB.out)⟩⟩
                  case round =>
                    clear H'
                    try clear c1
                    try clear c2
                    try clear p2
                    try clear c3
                    try clear c5
                    try clear p6
                    try clear c9
                    try clear c10
                    try clear c11
                    try clear c12
                    try clear c20
                    try clear c20b0
                    try clear c20b1
                    try clear c21
                    try clear c22
                    try clear c22b0
                    try clear c22b1
                    try clear c24
                    try clear c24b0
                    try clear c24b1
                    try clear c25
                    try clear c25b0
                    try clear c25b1
                    try clear c26
                    try clear c26b0
                    try clear c26b1
                    try clear c27
                    try clear p2
                    try clear p6
                    obtain ⟨x11_3, x19_3, rfl, rfl, HA, HK3, HB⟩ := hrel
                    cases gk with
                    | zero => exact absurd HA.out (by simp [letterlocklaw6_RegressJoins.l0])
                    | succ k3 =>
                      have H := HA.out
                      clear HA
                      simp only [letterlocklaw6_RegressJoins.l0] at H
                      by_cases c28 : x19_3 < t280
                      · rw [if_pos c28] at H
                        have c28b0 : decide (x19_3 < t280) = true := decide_eq_true c28
                        clear c28
                        replace H := Option.bind_eq_some_iff.mp H
                        obtain ⟨⟨t290, t291⟩, A290, H⟩ := H
                        replace H : (if t291 = 0 then (if (t290.length : Int) = 1 then ((term_Kind.f x11_3).bind fun t294 => (if t294 = 104 then (if 0 < (t290.length : Int) then (letterlocklaw6_RegressJoins.l0 k3 t279 t280 (rdOf ByteArray.empty t290 0) (wrap64 (x19_3 + 1))) else (none)) else (some false))) else (some false)) else (some false)) = some r := H
                        have A29 := Aside0.mk A290
                        clear A290
                        by_cases c30 : t291 = 0
                        · rw [if_pos c30] at H
                          have c30b0 : (t291 == 0) = true := beq_iff_eq.mpr c30
                          have c30b1 : (t291 != 0) = false := bne_eq_false_iff_eq.mpr c30
                          clear c30
                          by_cases c31 : (t290.length : Int) = 1
                          · rw [if_pos c31] at H
                            have c31b0 : ((t290.length : Int) == 1) = true := beq_iff_eq.mpr c31
                            have c31b1 : ((t290.length : Int) != 1) = false := bne_eq_false_iff_eq.mpr c31
                            clear c31
                            replace H := Option.bind_eq_some_iff.mp H
                            obtain ⟨t294, A320, H⟩ := H
                            replace H : (if t294 = 104 then (if 0 < (t290.length : Int) then (letterlocklaw6_RegressJoins.l0 k3 t279 t280 (rdOf ByteArray.empty t290 0) (wrap64 (x19_3 + 1))) else (none)) else (some false)) = some r := H
                            have A32 := Aside0.mk A320
                            clear A320
                            by_cases c33 : t294 = 104
                            · rw [if_pos c33] at H
                              have c33b0 : (t294 == 104) = true := beq_iff_eq.mpr c33
                              have c33b1 : (t294 != 104) = false := bne_eq_false_iff_eq.mpr c33
                              clear c33
                              by_cases c34 : 0 < (t290.length : Int)
                              · rw [if_pos c34] at H
                                have c34b0 : decide (0 < (t290.length : Int)) = true := decide_eq_true c34
                                have c34b1 : decide (0 < t290.length) = true := decide_eq_true (by omega)
                                clear c34
                                have H' := Aside0.mk H
                                clear H
                                go_wp2_with (first | ((with_reducible refine gate_callee (f := 13) rfl ?_); refine goesL_ (some 102) rfl rfl Try.func13 (by kernel_rfl) rfl #[.string x11_3] rfl (by (try simp only [List.map_toArray, List.map_cons, List.map_nil]); first | done | rfl | (simp only [List.length_drop, List.length_take]; rfl)) ?_; (with_reducible refine (term_Parts.calls x11_3 t290 t291 _ A29.out).mono ?_); rintro e w35 ⟨v292, rfl, ho0, hb⟩; refine ⟨_, rfl, ?_⟩; have n0_ := Aside0.mk (Kd.R_lower ho0 (below_size (by repeat (first | (with_reducible first | exact HB.out | apply below_alloc | apply pw_below_drewN | apply below_drew1) | exact HB.out)))); have n1_ := Aside0.mk (below_step (by repeat (first | (with_reducible first | exact HB.out | apply below_alloc | apply pw_below_drewN | apply below_drew1) | exact HB.out)) hb); clear HB; have HO293 := n0_; have HB := n1_; clear n0_ n1_; (try clear hb); (try clear hb2); (try clear hk); (try clear hi); (try clear ho0); obtain ⟨Ao36, co36, eo36⟩ := Kd.R_slice HO293.out; subst eo36) | (go_at_call 14; (with_reducible refine (term_Kind.calls x11_3 t294 _ A32.out).mono ?_); rintro e w37 ⟨rfl, hb⟩; have n0_ := Aside0.mk (Kd.R_below (by (with_reducible repeat (first | apply Kd.R_alloc | apply Kd.R_drewN | apply Kd.R_drew)); exact HO293.out) hb); have n1_ := Aside0.mk (below_step (by repeat (first | (with_reducible first | exact HB.out | apply below_alloc | apply pw_below_drewN | apply below_drew1) | exact HB.out)) hb); clear HO293; clear HB; have HO293 := n0_; have HB := n1_; clear n0_ n1_; (try clear hb); (try clear hb2); (try clear hk); (try clear hi); have p295 : 0 ≤ (0 : Int) := (by omega); have q295 : 0 < (t290.length : Int) := of_decide_eq_true (by first | (with_reducible assumption) | assumption); obtain ⟨ad295, e295, hx295_0⟩ := Kd.at_string (Kd.R_reads' HO293.out).2.2 0 p295 q295; cases e295; have qi295 : (0 < t290.length) = True := eq_true (by omega); (try rw [show ((0 : Int)).toNat = 0 from rfl] at hx295_0); (try rw [Addr.add_zero'] at hx295_0); replace p295 := eq_true p295; replace q295 := eq_true q295))
                                go_roundg k3
                                case measure => have := HJ12.out; have := HJ22.out; have := HK3.out; omega
                                case rel => exact ⟨(rdOf ByteArray.empty t290 0), (wrap64 (x19_3 + 1)), (by first | rfl | (simp; done) | (simp [*]; done)), (by first | rfl | (simp; done) | (simp [*]; done)), H', ⟨by have := HJ12.out; have := HJ22.out; have := HK3.out; omega⟩, ⟨by repeat (first | (with_reducible first | exact HB.out | apply below_alloc | apply pw_below_drewN | apply below_drew1) | exact HB.out)⟩⟩
                              · rw [if_neg c34] at H
                                exact absurd H (by simp)
                            · rw [if_neg c33] at H
                              have c33b0 : (t294 == 104) = false := beq_eq_false_iff_ne.mpr c33
                              have c33b1 : (t294 != 104) = true := bne_iff_ne.mpr c33
                              obtain rfl := Option.some.inj H
                              go_wp2_with (first | ((with_reducible refine gate_callee (f := 13) rfl ?_); refine goesL_ (some 102) rfl rfl Try.func13 (by kernel_rfl) rfl #[.string x11_3] rfl (by (try simp only [List.map_toArray, List.map_cons, List.map_nil]); first | done | rfl | (simp only [List.length_drop, List.length_take]; rfl)) ?_; (with_reducible refine (term_Parts.calls x11_3 t290 t291 _ A29.out).mono ?_); rintro e w38 ⟨v292, rfl, ho0, hb⟩; refine ⟨_, rfl, ?_⟩; have n0_ := Aside0.mk (Kd.R_lower ho0 (below_size (by repeat (first | (with_reducible first | exact HB.out | apply below_alloc | apply pw_below_drewN | apply below_drew1) | exact HB.out)))); have n1_ := Aside0.mk (below_step (by repeat (first | (with_reducible first | exact HB.out | apply below_alloc | apply pw_below_drewN | apply below_drew1) | exact HB.out)) hb); clear HB; have HO293 := n0_; have HB := n1_; clear n0_ n1_; (try clear hb); (try clear hb2); (try clear hk); (try clear hi); (try clear ho0); obtain ⟨Ao39, co39, eo39⟩ := Kd.R_slice HO293.out; subst eo39) | (go_at_call 14; (with_reducible refine (term_Kind.calls x11_3 t294 _ A32.out).mono ?_); rintro e w40 ⟨rfl, hb⟩; have n0_ := Aside0.mk (Kd.R_below (by (with_reducible repeat (first | apply Kd.R_alloc | apply Kd.R_drewN | apply Kd.R_drew)); exact HO293.out) hb); have n1_ := Aside0.mk (below_step (by repeat (first | (with_reducible first | exact HB.out | apply below_alloc | apply pw_below_drewN | apply below_drew1) | exact HB.out)) hb); clear HO293; clear HB; have HO293 := n0_; have HB := n1_; clear n0_ n1_; (try clear hb); (try clear hb2); (try clear hk); (try clear hi)))
                              go_ret
                              exact ⟨by first | rfl | (simp [errW_none, errW_some] <;> rfl) | (simp [*, errW_none, errW_some] <;> rfl), by repeat (first | (with_reducible first | exact HB.out | apply below_alloc | apply pw_below_drewN | apply below_drew1) | exact HB.out)⟩
                          · rw [if_neg c31] at H
                            have c31b0 : ((t290.length : Int) == 1) = false := beq_eq_false_iff_ne.mpr c31
                            have c31b1 : ((t290.length : Int) != 1) = true := bne_iff_ne.mpr c31
                            obtain rfl := Option.some.inj H
                            go_wp2_with (first | ((with_reducible refine gate_callee (f := 13) rfl ?_); refine goesL_ (some 102) rfl rfl Try.func13 (by kernel_rfl) rfl #[.string x11_3] rfl (by (try simp only [List.map_toArray, List.map_cons, List.map_nil]); first | done | rfl | (simp only [List.length_drop, List.length_take]; rfl)) ?_; (with_reducible refine (term_Parts.calls x11_3 t290 t291 _ A29.out).mono ?_); rintro e w41 ⟨v292, rfl, ho0, hb⟩; refine ⟨_, rfl, ?_⟩; have n0_ := Aside0.mk (Kd.R_lower ho0 (below_size (by repeat (first | (with_reducible first | exact HB.out | apply below_alloc | apply pw_below_drewN | apply below_drew1) | exact HB.out)))); have n1_ := Aside0.mk (below_step (by repeat (first | (with_reducible first | exact HB.out | apply below_alloc | apply pw_below_drewN | apply below_drew1) | exact HB.out)) hb); clear HB; have HO293 := n0_; have HB := n1_; clear n0_ n1_; (try clear hb); (try clear hb2); (try clear hk); (try clear hi); (try clear ho0); obtain ⟨Ao42, co42, eo42⟩ := Kd.R_slice HO293.out; subst eo42))
                            go_ret
                            exact ⟨by first | rfl | (simp [errW_none, errW_some] <;> rfl) | (simp [*, errW_none, errW_some] <;> rfl), by repeat (first | (with_reducible first | exact HB.out | apply below_alloc | apply pw_below_drewN | apply below_drew1) | exact HB.out)⟩
                        · rw [if_neg c30] at H
                          have c30b0 : (t291 == 0) = false := beq_eq_false_iff_ne.mpr c30
                          have c30b1 : (t291 != 0) = true := bne_iff_ne.mpr c30
                          obtain rfl := Option.some.inj H
                          go_wp2_with (first | ((with_reducible refine gate_callee (f := 13) rfl ?_); refine goesL_ (some 102) rfl rfl Try.func13 (by kernel_rfl) rfl #[.string x11_3] rfl (by (try simp only [List.map_toArray, List.map_cons, List.map_nil]); first | done | rfl | (simp only [List.length_drop, List.length_take]; rfl)) ?_; (with_reducible refine (term_Parts.calls x11_3 t290 t291 _ A29.out).mono ?_); rintro e w43 ⟨v292, rfl, ho0, hb⟩; refine ⟨_, rfl, ?_⟩; have n0_ := Aside0.mk (Kd.R_lower ho0 (below_size (by repeat (first | (with_reducible first | exact HB.out | apply below_alloc | apply pw_below_drewN | apply below_drew1) | exact HB.out)))); have n1_ := Aside0.mk (below_step (by repeat (first | (with_reducible first | exact HB.out | apply below_alloc | apply pw_below_drewN | apply below_drew1) | exact HB.out)) hb); clear HB; have HO293 := n0_; have HB := n1_; clear n0_ n1_; (try clear hb); (try clear hb2); (try clear hk); (try clear hi); (try clear ho0)))
                          go_ret
                          exact ⟨by first | rfl | (simp [errW_none, errW_some] <;> rfl) | (simp [*, errW_none, errW_some] <;> rfl), by repeat (first | (with_reducible first | exact HB.out | apply below_alloc | apply pw_below_drewN | apply below_drew1) | exact HB.out)⟩
                      · rw [if_neg c28] at H
                        have c28b0 : decide (x19_3 < t280) = false := decide_eq_false c28
                        clear c28
                        obtain rfl := Option.some.inj H
                        go_wp2
                        go_ret
                        exact ⟨by first | rfl | (simp [errW_none, errW_some] <;> rfl) | (simp [*, errW_none, errW_some] <;> rfl), by repeat (first | (with_reducible first | exact HB.out | apply below_alloc | apply pw_below_drewN | apply below_drew1) | exact HB.out)⟩
          · rw [if_neg c22] at H
            have c22b0 : (t283 == 0) = false := beq_eq_false_iff_ne.mpr c22
            have c22b1 : (t283 != 0) = true := bne_iff_ne.mpr c22
            by_cases c44 : t283 = 10
            · rw [if_pos c44] at H
              have c44b0 : (t283 == 10) = true := beq_iff_eq.mpr c44
              have c44b1 : (t283 != 10) = false := bne_eq_false_iff_eq.mpr c44
              clear c44
              by_cases c45 : t287 = 10
              · rw [if_pos c45] at H
                have c45b0 : (t287 == 10) = true := beq_iff_eq.mpr c45
                have c45b1 : (t287 != 10) = false := bne_eq_false_iff_eq.mpr c45
                clear c45
                by_cases c46 : t282.toList = ([] : List UInt8)
                · rw [if_pos c46] at H
                  have c46b0 : (t282.toList == ([] : List UInt8)) = true := beq_iff_eq.mpr c46
                  have c46b1 : (t282.toList != ([] : List UInt8)) = false := bne_eq_false_iff_eq.mpr c46
                  clear c46
                  obtain rfl := Option.some.inj H
                  go_wp2
                  go_ret
                  exact ⟨by first | rfl | (simp [errW_none, errW_some] <;> rfl) | (simp [*, errW_none, errW_some] <;> rfl), by repeat (first | (with_reducible first | exact HB.out | apply below_alloc | apply pw_below_drewN | apply below_drew1) | exact HB.out)⟩
                · rw [if_neg c46] at H
                  have c46b0 : (t282.toList == ([] : List UInt8)) = false := beq_eq_false_iff_ne.mpr c46
                  have c46b1 : (t282.toList != ([] : List UInt8)) = true := bne_iff_ne.mpr c46
                  obtain rfl := Option.some.inj H
                  go_wp2
                  go_ret
                  exact ⟨by first | rfl | (simp [errW_none, errW_some] <;> rfl) | (simp [*, errW_none, errW_some] <;> rfl), by repeat (first | (with_reducible first | exact HB.out | apply below_alloc | apply pw_below_drewN | apply below_drew1) | exact HB.out)⟩
              · rw [if_neg c45] at H
                have c45b0 : (t287 == 10) = false := beq_eq_false_iff_ne.mpr c45
                have c45b1 : (t287 != 10) = true := bne_iff_ne.mpr c45
                obtain rfl := Option.some.inj H
                go_wp2
                go_ret
                exact ⟨by first | rfl | (simp [errW_none, errW_some] <;> rfl) | (simp [*, errW_none, errW_some] <;> rfl), by repeat (first | (with_reducible first | exact HB.out | apply below_alloc | apply pw_below_drewN | apply below_drew1) | exact HB.out)⟩
            · rw [if_neg c44] at H
              have c44b0 : (t283 == 10) = false := beq_eq_false_iff_ne.mpr c44
              have c44b1 : (t283 != 10) = true := bne_iff_ne.mpr c44
              obtain rfl := Option.some.inj H
              go_wp2
              go_ret
              exact ⟨by first | rfl | (simp [errW_none, errW_some] <;> rfl) | (simp [*, errW_none, errW_some] <;> rfl), by repeat (first | (with_reducible first | exact HB.out | apply below_alloc | apply pw_below_drewN | apply below_drew1) | exact HB.out)⟩
  · replace c5 := Bool.eq_false_iff.mpr c5
    subst c5
    have H1 : (some false) = some r := by rw [if_neg (show ¬ (false = true) by decide)] at H; exact H
    clear H
    have H := H1
    clear H1
    obtain rfl := Option.some.inj H
    go_enter Try.func3, Try.ntmps3
    go_wp2_with (first | ((with_reducible refine gate_callee (f := 9) rfl ?_); refine goesL_ (some 22) rfl rfl Try.func9 (by kernel_rfl) rfl #[] rfl (by (try simp only [List.map_toArray, List.map_cons, List.map_nil]); first | done | rfl | (simp only [List.length_drop, List.length_take]; rfl)) ?_; (with_reducible refine (letterlocklaw6_shown.calls k  false _ A4.out).mono ?_); rintro e w47 ⟨rfl, hb⟩; refine ⟨_, rfl, ?_⟩; have n0_ := Aside0.mk (below_step (by repeat (first | (with_reducible first | exact HB.out | apply below_alloc | apply pw_below_drewN | apply below_drew1) | exact HB.out)) hb); clear HB; have HB := n0_; clear n0_; (try clear hb); (try clear hb2); (try clear hk); (try clear hi)))
    go_ret
    exact ⟨by first | rfl | (simp [errW_none, errW_some] <;> rfl) | (simp [*, errW_none, errW_some] <;> rfl), by repeat (first | (with_reducible first | exact HB.out | apply below_alloc | apply pw_below_drewN | apply below_drew1) | exact HB.out)⟩

/-- THE ONE PURE STATEMENT of letterlocklaw6_RegressJoins: yours. -/
def letterlocklaw6_RegressJoins.Pure : Prop := ∀ (l0 : List Int) (a1 : Int) (a2 : Int), l0.length ≤ maxLen → l0.length * 8 ≤ 140737488351232 → (∀ x ∈ l0, (Lit.int .i64 x).wf = true) → (Lit.int .i64 a1).wf = true → (Lit.int .i64 a2).wf = true → ∃ k, letterlocklaw6_RegressJoins.f k l0 a1 a2 = some true
theorem letterlocklaw6_RegressJoins.walk (P : letterlocklaw6_RegressJoins.Pure) (a0 : Option Addr) (len0 cap0 : Nat) (z0 : List Int) (a1 : Int) (a2 : Int) (w : World) (w0 : (a0 = none ∧ len0 = 0 ∧ cap0 = 0 ∧ z0 = []) ∨ ∃ x, a0 = some x ∧ len0 ≤ cap0 ∧ cap0 ≤ maxLen ∧ z0.length = cap0 ∧ (∀ i, i < z0.length → w.cell? (x.add i) = some (.int .i64 (z0.getD i 0))) ∧ ∀ n ∈ z0, (Lit.int .i64 n).wf = true) (y0 : len0 * 8 ≤ 140737488351232) (w1 : (Lit.int .i64 a1).wf = true) (w2 : (Lit.int .i64 a2).wf = true) :
    Calls Try.prog 3 #[.slice a0 len0 cap0, .int .i64 a1, .int .i64 a2] w fun e w' => e = .returned (.bool true) ∧ Below w.heap.size w w' := by
  obtain ⟨l0, rfl, hr0, hm0, hw0, hc0⟩ := ReadsInt.ofRowC w0
  obtain ⟨k, h⟩ := P l0 a1 a2 hm0 y0 hw0 w1 w2
  refine (letterlocklaw6_RegressJoins.calls k _ _ l0 a1 a2 true w (Kd.C_of_reads (d := (0 : Int)) (h1 := fun _ => rfl) hr0) hc0 h).mono ?_
  rintro e w' ⟨rfl, hd⟩
  exact ⟨rfl, hd⟩

end Go.Proofs.Ytpgbhgpjfjeomaa.PA
