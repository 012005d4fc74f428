-- printed by a program of this session (a copy of print.py that takes stubs) out of the translation; Lean checks it
import Derived.Test.YtngdpoghfacokaaDoorPAx0
import Derived.Test.YtngdpoghfacokaaDoorPAx4
import Derived.Test.YtngdpoghfacokaaDoorPAx5
namespace Go.Proofs.YtngdpoghfacokaaDoor.PA
open Go.RowKit Go.Proofs.YtngdpoghfacokaaDoorW.PrintWords Go.Proofs.YtngdpoghfacokaaDoorW.PrintLast Go.Proofs.YtngdpoghfacokaaDoorW.PrintMore
attribute [local go_sem] max2_int min2_int max_two min_two max_three min_three max_four min_four   -- for this text's walks alone
set_option linter.unusedVariables false
set_option linter.unusedSimpArgs false

/-! ### letterlocklaw1_NameCuts: function 7 -/
def letterlocklaw1_NameCuts.j0 : Nat → Int → Int → ByteArray → ByteArray → List Int → List Int → Bool → Option (Bool)
  | 0, _, _, _, _, _, _, _ => none
  | k + 1, x2, x3, x10, x11, x12, x14, x47 => if x47 = true then (some false) else ((letterlocklaw1_pick.f x2 (x12.length : Int)).bind fun t293 => ((letterlocklaw1_pick.f x3 (wrap64 ((x12.length : Int) - t293))).bind fun t294 => (if 0 ≤ t293 then (if t293 ≤ (wrap64 ((wrap64 (t293 + 1)) + t294)) then (if (wrap64 ((wrap64 (t293 + 1)) + t294)) ≤ (x12.length : Int) then ((name_Make.f ((x12.take ((wrap64 ((wrap64 (t293 + 1)) + t294)) : Int).toNat).drop (t293 : Int).toNat)).bind fun bt299 => (if bt299.2 = 0 then ((name_Right.f bt299.1).bind fun t301 => (if t301 = true then (if x10.size + x11.size ≤ 9223372036854775807 then ((name_Right.f (x10 ++ x11)).bind fun t302 => (if (t302 == (decide ((wrap64 ((x12.length : Int) + (x14.length : Int))) ≤ 32))) = true then ((name_Right.f (⟨#[]⟩ : ByteArray)).bind fun t303 => (some (!t303))) else (some false))) else (none)) else (some false))) else (some false))) else (none)) else (none)) else (none))))
def letterlocklaw1_NameCuts.f (k : Nat) (l0 : List Int) (l1 : List Int) (a2 : Int) (a3 : Int) : Option (Bool) := (letterlocklaw1_shown.f).bind fun t282 => (if t282 = true then ((letterlocklaw1_named.f k l0).bind fun t283 => ((letterlocklaw1_named.f k l1).bind fun t284 => ((name_Runes.f t283).bind fun bt285 => ((name_Runes.f t284).bind fun bt289 => (if bt285.2 = 0 then (if bt289.2 = 0 then (letterlocklaw1_NameCuts.j0 k a2 a3 t283 t284 bt285.1 bt289.1 ((bt285.1.length : Int) == 0)) else (letterlocklaw1_NameCuts.j0 k a2 a3 t283 t284 bt285.1 bt289.1 true)) else (letterlocklaw1_NameCuts.j0 k a2 a3 t283 t284 bt285.1 bt289.1 true)))))) else (some false))
theorem letterlocklaw1_NameCuts.mono_l : ∀ k, (∀ y0 y1 y2 y3 y4 y5 y6, LeO (letterlocklaw1_NameCuts.j0 k y0 y1 y2 y3 y4 y5 y6) (letterlocklaw1_NameCuts.j0 (k + 1) y0 y1 y2 y3 y4 y5 y6))
  | 0 => fun _ _ _ _ _ _ _ r h => by simp [letterlocklaw1_NameCuts.j0] at h
  | k + 1 => by
    have ih0 := letterlocklaw1_NameCuts.mono_l k
    · intro y0 y1 y2 y3 y4 y5 y6
      unfold letterlocklaw1_NameCuts.j0
      repeat' first
      | (with_reducible exact ih0 _ _ _ _ _ _ _)
      | (with_reducible exact letterlocklaw1_named.mono _ _)
      | (with_reducible exact LeO.refl _)
      | (with_reducible exact LeO.none _)
      | (with_reducible refine LeO.ite ?_ ?_)
      | (with_reducible refine LeO.bind ?_ (fun _ => ?_))
      | exact ih0 _ _ _ _ _ _ _
      | exact letterlocklaw1_named.mono _ _
      | exact LeO.none _
      | refine LeO.ite ?_ ?_
      | refine LeO.bind ?_ (fun _ => ?_)
theorem letterlocklaw1_NameCuts.mono : ∀ a0 a1 a2 a3 k, LeO (letterlocklaw1_NameCuts.f k a0 a1 a2 a3) (letterlocklaw1_NameCuts.f (k + 1) a0 a1 a2 a3) := by
  intro a0 a1 a2 a3 k
  have ih0 := letterlocklaw1_NameCuts.mono_l k
  unfold letterlocklaw1_NameCuts.f
  repeat' first
      | (with_reducible exact ih0 _ _ _ _ _ _ _)
      | (with_reducible exact letterlocklaw1_named.mono _ _)
      | (with_reducible exact LeO.refl _)
      | (with_reducible exact LeO.none _)
      | (with_reducible refine LeO.ite ?_ ?_)
      | (with_reducible refine LeO.bind ?_ (fun _ => ?_))
      | exact ih0 _ _ _ _ _ _ _
      | exact letterlocklaw1_named.mono _ _
      | exact LeO.none _
      | refine LeO.ite ?_ ?_
      | refine LeO.bind ?_ (fun _ => ?_)
set_option maxHeartbeats 8000000 in
set_option maxRecDepth 100000 in
theorem letterlocklaw1_NameCuts.calls (k : Nat) (A0 : Option Addr) (c0 : Nat) (l0 : List Int) (A1 : Option Addr) (c1 : Nat) (l1 : List Int) (a2 : Int) (a3 : Int) (r : Bool) (w : World) (HTB : Aside0 (Tabs w)) (hr0 : Kd.C (Kd.int .i64) w A0 l0.length l0) (hc0 : l0.length ≤ c0) (hr1 : Kd.C (Kd.int .i64) w A1 l1.length l1) (hc1 : l1.length ≤ c1) (h : letterlocklaw1_NameCuts.f k l0 l1 a2 a3 = some r) :
    Calls Tryd.prog 7 #[.slice A0 l0.length c0, .slice A1 l1.length c1, .int .i64 a2, .int .i64 a3] w fun e w' => e = .returned (.bool r) ∧ Below w.heap.size w w' := by
  have HR0 := Aside0.mk hr0
  have HC0 := Aside0.mk hc0
  clear hr0 hc0
  have HR1 := Aside0.mk hr1
  have HC1 := Aside0.mk hc1
  clear hr1 hc1
  have HB := Aside0.mk (Below.refl w.heap.size w)
  have H : ((letterlocklaw1_shown.f).bind fun t282 => (if t282 = true then ((letterlocklaw1_named.f k l0).bind fun t283 => ((letterlocklaw1_named.f k l1).bind fun t284 => ((name_Runes.f t283).bind fun bt285 => ((name_Runes.f t284).bind fun bt289 => (if bt285.2 = 0 then (if bt289.2 = 0 then (letterlocklaw1_NameCuts.j0 k a2 a3 t283 t284 bt285.1 bt289.1 ((bt285.1.length : Int) == 0)) else (letterlocklaw1_NameCuts.j0 k a2 a3 t283 t284 bt285.1 bt289.1 true)) else (letterlocklaw1_NameCuts.j0 k a2 a3 t283 t284 bt285.1 bt289.1 true)))))) else (some false))) = some r := h
  clear h
  replace H := Option.bind_eq_some_iff.mp H
  obtain ⟨t282, A50, H⟩ := H
  replace H : (if t282 = true then ((letterlocklaw1_named.f k l0).bind fun t283 => ((letterlocklaw1_named.f k l1).bind fun t284 => ((name_Runes.f t283).bind fun bt285 => ((name_Runes.f t284).bind fun bt289 => (if bt285.2 = 0 then (if bt289.2 = 0 then (letterlocklaw1_NameCuts.j0 k a2 a3 t283 t284 bt285.1 bt289.1 ((bt285.1.length : Int) == 0)) else (letterlocklaw1_NameCuts.j0 k a2 a3 t283 t284 bt285.1 bt289.1 true)) else (letterlocklaw1_NameCuts.j0 k a2 a3 t283 t284 bt285.1 bt289.1 true)))))) else (some false)) = some r := H
  have A5 := Aside0.mk A50
  clear A50
  by_cases c6 : t282 = true
  · subst c6
    have H1 : ((letterlocklaw1_named.f k l0).bind fun t283 => ((letterlocklaw1_named.f k l1).bind fun t284 => ((name_Runes.f t283).bind fun bt285 => ((name_Runes.f t284).bind fun bt289 => (if bt285.2 = 0 then (if bt289.2 = 0 then (letterlocklaw1_NameCuts.j0 k a2 a3 t283 t284 bt285.1 bt289.1 ((bt285.1.length : Int) == 0)) else (letterlocklaw1_NameCuts.j0 k a2 a3 t283 t284 bt285.1 bt289.1 true)) else (letterlocklaw1_NameCuts.j0 k a2 a3 t283 t284 bt285.1 bt289.1 true)))))) = some r := by rw [if_pos rfl] at H; exact H
    clear H
    have H := H1
    clear H1
    replace H := Option.bind_eq_some_iff.mp H
    obtain ⟨t283, A70, H⟩ := H
    replace H : ((letterlocklaw1_named.f k l1).bind fun t284 => ((name_Runes.f t283).bind fun bt285 => ((name_Runes.f t284).bind fun bt289 => (if bt285.2 = 0 then (if bt289.2 = 0 then (letterlocklaw1_NameCuts.j0 k a2 a3 t283 t284 bt285.1 bt289.1 ((bt285.1.length : Int) == 0)) else (letterlocklaw1_NameCuts.j0 k a2 a3 t283 t284 bt285.1 bt289.1 true)) else (letterlocklaw1_NameCuts.j0 k a2 a3 t283 t284 bt285.1 bt289.1 true))))) = some r := H
    have A7 := Aside0.mk A70
    clear A70
    replace H := Option.bind_eq_some_iff.mp H
    obtain ⟨t284, A80, H⟩ := H
    replace H : ((name_Runes.f t283).bind fun bt285 => ((name_Runes.f t284).bind fun bt289 => (if bt285.2 = 0 then (if bt289.2 = 0 then (letterlocklaw1_NameCuts.j0 k a2 a3 t283 t284 bt285.1 bt289.1 ((bt285.1.length : Int) == 0)) else (letterlocklaw1_NameCuts.j0 k a2 a3 t283 t284 bt285.1 bt289.1 true)) else (letterlocklaw1_NameCuts.j0 k a2 a3 t283 t284 bt285.1 bt289.1 true)))) = some r := H
    have A8 := Aside0.mk A80
    clear A80
    replace H := Option.bind_eq_some_iff.mp H
    obtain ⟨⟨t285, t286⟩, A90, H⟩ := H
    replace H : ((name_Runes.f t284).bind fun bt289 => (if t286 = 0 then (if bt289.2 = 0 then (letterlocklaw1_NameCuts.j0 k a2 a3 t283 t284 t285 bt289.1 ((t285.length : Int) == 0)) else (letterlocklaw1_NameCuts.j0 k a2 a3 t283 t284 t285 bt289.1 true)) else (letterlocklaw1_NameCuts.j0 k a2 a3 t283 t284 t285 bt289.1 true))) = some r := H
    have A9 := Aside0.mk A90
    clear A90
    replace H := Option.bind_eq_some_iff.mp H
    obtain ⟨⟨t289, t290⟩, A100, H⟩ := H
    replace H : (if t286 = 0 then (if t290 = 0 then (letterlocklaw1_NameCuts.j0 k a2 a3 t283 t284 t285 t289 ((t285.length : Int) == 0)) else (letterlocklaw1_NameCuts.j0 k a2 a3 t283 t284 t285 t289 true)) else (letterlocklaw1_NameCuts.j0 k a2 a3 t283 t284 t285 t289 true)) = some r := H
    have A10 := Aside0.mk A100
    clear A100
    have HC11 := Aside0.mk H
    clear H
    go_enter Tryd.func7, Tryd.ntmps7
    go_upto_region 8 with (first | ((with_reducible refine gate_callee (f := 12) rfl ?_); refine goesL_ (some 20) rfl rfl Tryd.func12 (by kernel_rfl) rfl #[] rfl (by (try simp only [List.map_toArray, List.map_cons, List.map_nil]); first | done | rfl | (simp only [List.length_drop, List.length_take]; rfl)) ?_; (with_reducible refine (letterlocklaw1_shown.calls  true _ ?side1 A5.out).mono ?_); (case side1 => exact ⟨Tabs.below HTB.out (by repeat (first | (with_reducible first | exact HB.out | apply below_alloc | apply pw_below_drewN | apply below_drew1) | exact HB.out))⟩); rintro e w12 ⟨rfl, hb⟩; refine ⟨_, rfl, ?_⟩; have n0_ := Aside0.mk (below_step (by repeat (first | (with_reducible first | exact HB.out | apply below_alloc | apply pw_below_drewN | apply below_drew1) | exact HB.out)) hb); clear HB; have HB := n0_; clear n0_; (try clear hb); (try clear hb2); (try clear hk); (try clear hi)) | ((with_reducible refine gate_callee (f := 16) rfl ?_); refine goesL_ (some 24) rfl rfl Tryd.func16 (by kernel_rfl) rfl #[.slice A0 l0.length c0] rfl (by (try simp only [List.map_toArray, List.map_cons, List.map_nil]); first | done | rfl | (simp only [List.length_drop, List.length_take]; rfl)) ?_; (with_reducible refine (letterlocklaw1_named.calls k _ _ l0 t283 _ ?side1 ?side2 A7.out).mono ?_); (case side1 => repeat (first | exact (Kd.C_below HR0.out HB.out) | (with_reducible refine Kd.C_alloc ?_ _) | (with_reducible refine Kd.C_drewN ?_ _) | (with_reducible refine Kd.C_drew ?_))); (case side2 => exact HC0.out); rintro e w13 ⟨rfl, hb⟩; refine ⟨_, rfl, ?_⟩; have n0_ := Aside0.mk (below_step (by repeat (first | (with_reducible first | exact HB.out | apply below_alloc | apply pw_below_drewN | apply below_drew1) | exact HB.out)) hb); clear HB; have HB := n0_; clear n0_; (try clear hb); (try clear hb2); (try clear hk); (try clear hi)) | ((with_reducible refine gate_callee (f := 16) rfl ?_); refine goesL_ (some 26) rfl rfl Tryd.func16 (by kernel_rfl) rfl #[.slice A1 l1.length c1] rfl (by (try simp only [List.map_toArray, List.map_cons, List.map_nil]); first | done | rfl | (simp only [List.length_drop, List.length_take]; rfl)) ?_; (with_reducible refine (letterlocklaw1_named.calls k _ _ l1 t284 _ ?side1 ?side2 A8.out).mono ?_); (case side1 => repeat (first | exact (Kd.C_below HR1.out HB.out) | (with_reducible refine Kd.C_alloc ?_ _) | (with_reducible refine Kd.C_drewN ?_ _) | (with_reducible refine Kd.C_drew ?_))); (case side2 => exact HC1.out); rintro e w14 ⟨rfl, hb⟩; refine ⟨_, rfl, ?_⟩; have n0_ := Aside0.mk (below_step (by repeat (first | (with_reducible first | exact HB.out | apply below_alloc | apply pw_below_drewN | apply below_drew1) | exact HB.out)) hb); clear HB; have HB := n0_; clear n0_; (try clear hb); (try clear hb2); (try clear hk); (try clear hi)) | ((with_reducible refine gate_callee (f := 17) rfl ?_); refine goesL_ (some 29) rfl rfl Tryd.func17 (by kernel_rfl) rfl #[.string t283] rfl (by (try simp only [List.map_toArray, List.map_cons, List.map_nil]); first | done | rfl | (simp only [List.length_drop, List.length_take]; rfl)) ?_; (with_reducible refine (name_Runes.calls t283 t285 t286 _ ?side1 A9.out).mono ?_); (case side1 => exact ⟨Tabs.below HTB.out (by repeat (first | (with_reducible first | exact HB.out | apply below_alloc | apply pw_below_drewN | apply below_drew1) | exact HB.out))⟩); rintro e w15 ⟨v287, rfl, ho0, hb⟩; refine ⟨_, rfl, ?_⟩; have n0_ := Aside0.mk (Kd.R_lower ho0 (below_size (by repeat (first | (with_reducible first | exact HB.out | apply below_alloc | apply pw_below_drewN | apply below_drew1) | exact HB.out)))); have n1_ := Aside0.mk (below_step (by repeat (first | (with_reducible first | exact HB.out | apply below_alloc | apply pw_below_drewN | apply below_drew1) | exact HB.out)) hb); clear HB; have HO288 := n0_; have HB := n1_; clear n0_ n1_; (try clear hb); (try clear hb2); (try clear hk); (try clear hi); (try clear ho0)) | ((with_reducible refine gate_callee (f := 17) rfl ?_); refine goesL_ (some 34) rfl rfl Tryd.func17 (by kernel_rfl) rfl #[.string t284] rfl (by (try simp only [List.map_toArray, List.map_cons, List.map_nil]); first | done | rfl | (simp only [List.length_drop, List.length_take]; rfl)) ?_; (with_reducible refine (name_Runes.calls t284 t289 t290 _ ?side1 A10.out).mono ?_); (case side1 => exact ⟨Tabs.below HTB.out (by repeat (first | (with_reducible first | exact HB.out | apply below_alloc | apply pw_below_drewN | apply below_drew1) | exact HB.out))⟩); rintro e w16 ⟨v291, rfl, ho0, hb⟩; refine ⟨_, rfl, ?_⟩; have n0_ := Aside0.mk (Kd.R_elder' (by (with_reducible repeat (first | apply Kd.R_alloc | apply Kd.R_drewN | apply Kd.R_drew)); exact HO288.out) (Kd.R_base ho0) hb); have n1_ := Aside0.mk (Kd.R_lower (Kd.R_new' ho0 (Kd.R_lt (by (with_reducible repeat (first | apply Kd.R_alloc | apply Kd.R_drewN | apply Kd.R_drew)); exact HO288.out))) (below_size (by repeat (first | (with_reducible first | exact HB.out | apply below_alloc | apply pw_below_drewN | apply below_drew1) | exact HB.out)))); have n2_ := Aside0.mk (below_step (by repeat (first | (with_reducible first | exact HB.out | apply below_alloc | apply pw_below_drewN | apply below_drew1) | exact HB.out)) hb); clear HO288; clear HB; have HO288 := n0_; have HO292 := n1_; have HB := n2_; clear n0_ n1_ n2_; (try clear hb); (try clear hb2); (try clear hk); (try clear hi); (try clear ho0)))
    (try simp only [Act.put, List.setIfInBounds_toArray, List.set_cons_zero, List.set_cons_succ])
    go_cut [47] (fun v47 wc => ∃ (kq : Nat) (x47_10 : Bool), v47 = .bool x47_10 ∧ Aside0 (letterlocklaw1_NameCuts.j0 kq a2 a3 t283 t284 t285 t289 x47_10 = some r) ∧ Aside0 (kq ≤ k) ∧ Aside0 (Kd.R (Kd.int .i32) 21 wc w.heap.size (fun k_ => some k_ ≠ (v291 : Value).ownBlock) v287 t285) ∧ Aside0 (Kd.R (Kd.int .i32) 21 wc w.heap.size (fun k_ => some k_ ≠ (v287 : Value).ownBlock) v291 t289) ∧ Aside0 (Below w.heap.size w wc))
    case first =>
      have H := HC11.out
      clear HC11
      by_cases c17 : t286 = 0
      · rw [if_pos c17] at H
        have c17b0 : (t286 == 0) = true := beq_iff_eq.mpr c17
        have c17b1 : (t286 != 0) = false := bne_eq_false_iff_eq.mpr c17
        clear c17
        (first | rw [c17b0] | (simp only [i64_w, i32_w]; rw [c17b0]) | skip)
        by_cases c18 : t290 = 0
        · rw [if_pos c18] at H
          have c18b0 : (t290 == 0) = true := beq_iff_eq.mpr c18
          have c18b1 : (t290 != 0) = false := bne_eq_false_iff_eq.mpr c18
          clear c18
          have H' := Aside0.mk H
          clear H
          obtain ⟨Ao19, co19, eo19⟩ := Kd.R_slice HO288.out
          subst eo19
          go_wp2
          go_meet
          case rel => exact ⟨_, (((t285.length : Int) == 0)), (by first | rfl | (simp; done) | (simp [*]; done)), H', ⟨by first | omega | exact Nat.le_refl _⟩, ⟨by (with_reducible repeat (first | apply Kd.R_alloc | apply Kd.R_drewN | apply Kd.R_drew)); exact Kd.R_mono HO288.out (fun _ hk => hk.2)⟩, ⟨by (with_reducible repeat (first | apply Kd.R_alloc | apply Kd.R_drewN | apply Kd.R_drew)); exact Kd.R_mono HO292.out (fun _ hk => hk.2)⟩, ⟨by repeat (first | (with_reducible first | exact HB.out | apply below_alloc | apply pw_below_drewN | apply below_drew1) | exact HB.out)⟩⟩
        · rw [if_neg c18] at H
          have c18b0 : (t290 == 0) = false := beq_eq_false_iff_ne.mpr c18
          have c18b1 : (t290 != 0) = true := bne_iff_ne.mpr c18
          have H' := Aside0.mk H
          clear H
          go_wp2
          go_meet
          case rel => exact ⟨_, (true), (by first | rfl | (simp; done) | (simp [*]; done)), H', ⟨by first | omega | exact Nat.le_refl _⟩, ⟨by (with_reducible repeat (first | apply Kd.R_alloc | apply Kd.R_drewN | apply Kd.R_drew)); exact Kd.R_mono HO288.out (fun _ hk => hk.2)⟩, ⟨by (with_reducible repeat (first | apply Kd.R_alloc | apply Kd.R_drewN | apply Kd.R_drew)); exact Kd.R_mono HO292.out (fun _ hk => hk.2)⟩, ⟨by repeat (first | (with_reducible first | exact HB.out | apply below_alloc | apply pw_below_drewN | apply below_drew1) | exact HB.out)⟩⟩
      · rw [if_neg c17] at H
        have c17b0 : (t286 == 0) = false := beq_eq_false_iff_ne.mpr c17
        have c17b1 : (t286 != 0) = true := bne_iff_ne.mpr c17
        (first | rw [c17b0] | (simp only [i64_w, i32_w]; rw [c17b0]) | skip)
        have H' := Aside0.mk H
        clear H
        go_wp2
        go_meet
        case rel => exact ⟨_, (true), (by first | rfl | (simp; done) | (simp [*]; done)), H', ⟨by first | omega | exact Nat.le_refl _⟩, ⟨by (with_reducible repeat (first | apply Kd.R_alloc | apply Kd.R_drewN | apply Kd.R_drew)); exact Kd.R_mono HO288.out (fun _ hk => hk.2)⟩, ⟨by (with_reducible repeat (first | apply Kd.R_alloc | apply Kd.R_drewN | apply Kd.R_drew)); exact Kd.R_mono HO292.out (fun _ hk => hk.2)⟩, ⟨by repeat (first | (with_reducible first | exact HB.out | apply below_alloc | apply pw_below_drewN | apply below_drew1) | exact HB.out)⟩⟩
    case rest =>
      clear HC11
      try clear c1
      try clear p2
      try clear c6
      try clear c7
      try clear c12
      try clear c16
      try clear c17
      try clear c17b0
      try clear c17b1
      try clear c18
      try clear c18b0
      try clear c18b1
      obtain ⟨kq, x47_10, rfl, HA, HJ10, HO_12, HO_14, HB⟩ := hcut
      cases kq with
      | zero => exact absurd HA.out (by simp [letterlocklaw1_NameCuts.j0])
      | succ kj10 =>
        have H := HA.out
        clear HA
        simp only [letterlocklaw1_NameCuts.j0] at H
        by_cases c20 : x47_10 = true
        · subst c20
          have H1 : (some false) = some r := by rw [if_pos rfl] at H; exact H
          clear H
          have H := H1
          clear H1
          obtain rfl := Option.some.inj H
          go_wp2
          go_ret
          exact ⟨by first | rfl | (simp [errW_none, errW_some] <;> rfl) | (simp [*, errW_none, errW_some] <;> rfl), by repeat (first | (with_reducible first | exact HB.out | apply below_alloc | apply pw_below_drewN | apply below_drew1) | exact HB.out)⟩
        · replace c20 := Bool.eq_false_iff.mpr c20
          subst c20
          have H1 : ((letterlocklaw1_pick.f a2 (t285.length : Int)).bind fun t293 => ((letterlocklaw1_pick.f a3 (wrap64 ((t285.length : Int) - t293))).bind fun t294 => (if 0 ≤ t293 then (if t293 ≤ (wrap64 ((wrap64 (t293 + 1)) + t294)) then (if (wrap64 ((wrap64 (t293 + 1)) + t294)) ≤ (t285.length : Int) then ((name_Make.f ((t285.take ((wrap64 ((wrap64 (t293 + 1)) + t294)) : Int).toNat).drop (t293 : Int).toNat)).bind fun bt299 => (if bt299.2 = 0 then ((name_Right.f bt299.1).bind fun t301 => (if t301 = true then (if t283.size + t284.size ≤ 9223372036854775807 then ((name_Right.f (t283 ++ t284)).bind fun t302 => (if (t302 == (decide ((wrap64 ((t285.length : Int) + (t289.length : Int))) ≤ 32))) = true then ((name_Right.f (⟨#[]⟩ : ByteArray)).bind fun t303 => (some (!t303))) else (some false))) else (none)) else (some false))) else (some false))) else (none)) else (none)) else (none)))) = some r := by rw [if_neg (show ¬ (false = true) by decide)] at H; exact H
          clear H
          have H := H1
          clear H1
          replace H := Option.bind_eq_some_iff.mp H
          obtain ⟨t293, A210, H⟩ := H
          replace H : ((letterlocklaw1_pick.f a3 (wrap64 ((t285.length : Int) - t293))).bind fun t294 => (if 0 ≤ t293 then (if t293 ≤ (wrap64 ((wrap64 (t293 + 1)) + t294)) then (if (wrap64 ((wrap64 (t293 + 1)) + t294)) ≤ (t285.length : Int) then ((name_Make.f ((t285.take ((wrap64 ((wrap64 (t293 + 1)) + t294)) : Int).toNat).drop (t293 : Int).toNat)).bind fun bt299 => (if bt299.2 = 0 then ((name_Right.f bt299.1).bind fun t301 => (if t301 = true then (if t283.size + t284.size ≤ 9223372036854775807 then ((name_Right.f (t283 ++ t284)).bind fun t302 => (if (t302 == (decide ((wrap64 ((t285.length : Int) + (t289.length : Int))) ≤ 32))) = true then ((name_Right.f (⟨#[]⟩ : ByteArray)).bind fun t303 => (some (!t303))) else (some false))) else (none)) else (some false))) else (some false))) else (none)) else (none)) else (none))) = some r := H
          have A21 := Aside0.mk A210
          clear A210
          replace H := Option.bind_eq_some_iff.mp H
          obtain ⟨t294, A220, H⟩ := H
          replace H : (if 0 ≤ t293 then (if t293 ≤ (wrap64 ((wrap64 (t293 + 1)) + t294)) then (if (wrap64 ((wrap64 (t293 + 1)) + t294)) ≤ (t285.length : Int) then ((name_Make.f ((t285.take ((wrap64 ((wrap64 (t293 + 1)) + t294)) : Int).toNat).drop (t293 : Int).toNat)).bind fun bt299 => (if bt299.2 = 0 then ((name_Right.f bt299.1).bind fun t301 => (if t301 = true then (if t283.size + t284.size ≤ 9223372036854775807 then ((name_Right.f (t283 ++ t284)).bind fun t302 => (if (t302 == (decide ((wrap64 ((t285.length : Int) + (t289.length : Int))) ≤ 32))) = true then ((name_Right.f (⟨#[]⟩ : ByteArray)).bind fun t303 => (some (!t303))) else (some false))) else (none)) else (some false))) else (some false))) else (none)) else (none)) else (none)) = some r := H
          have A22 := Aside0.mk A220
          clear A220
          by_cases c23 : 0 ≤ t293
          · rw [if_pos c23] at H
            have c23b0 := eq_true c23
            have c23b1 : decide (0 ≤ t293) = true := decide_eq_true c23
            clear c23
            by_cases c24 : t293 ≤ (wrap64 ((wrap64 (t293 + 1)) + t294))
            · rw [if_pos c24] at H
              have c24b0 := eq_true c24
              have c24b1 : decide (t293 ≤ (wrap64 ((wrap64 (t293 + 1)) + t294))) = true := decide_eq_true c24
              by_cases c25 : (wrap64 ((wrap64 (t293 + 1)) + t294)) ≤ (t285.length : Int)
              · rw [if_pos c25] at H
                have c25b0 := eq_true c25
                have c25b1 : decide ((wrap64 ((wrap64 (t293 + 1)) + t294)) ≤ (t285.length : Int)) = true := decide_eq_true c25
                obtain ⟨y295, hy295⟩ : ∃ y_ : List Int, y_ = ((t285.take ((wrap64 ((wrap64 (t293 + 1)) + t294)) : Int).toNat).drop (t293 : Int).toNat) := ⟨_, rfl⟩
                replace H : ((name_Make.f y295).bind fun bt299 => (if bt299.2 = 0 then ((name_Right.f bt299.1).bind fun t301 => (if t301 = true then (if t283.size + t284.size ≤ 9223372036854775807 then ((name_Right.f (t283 ++ t284)).bind fun t302 => (if (t302 == (decide ((wrap64 ((t285.length : Int) + (t289.length : Int))) ≤ 32))) = true then ((name_Right.f (⟨#[]⟩ : ByteArray)).bind fun t303 => (some (!t303))) else (some false))) else (none)) else (some false))) else (some false))) = some r := by first | (rw [hy295]; with_reducible exact H) | (have H2_ := (Option.bind_some _ _).symm.trans H; rw [hy295]; with_reducible exact H2_) | (have H2_ := (Option.bind_some _ _).symm.trans H; with_reducible exact H2_) | with_reducible exact H | (rw [hy295]; exact H) | exact H
                have Ny295 := Aside0.mk hy295
                clear hy295
                replace H := Option.bind_eq_some_iff.mp H
                obtain ⟨⟨t299, t300⟩, A260, H⟩ := H
                replace H : (if t300 = 0 then ((name_Right.f t299).bind fun t301 => (if t301 = true then (if t283.size + t284.size ≤ 9223372036854775807 then ((name_Right.f (t283 ++ t284)).bind fun t302 => (if (t302 == (decide ((wrap64 ((t285.length : Int) + (t289.length : Int))) ≤ 32))) = true then ((name_Right.f (⟨#[]⟩ : ByteArray)).bind fun t303 => (some (!t303))) else (some false))) else (none)) else (some false))) else (some false)) = some r := H
                have A26 := Aside0.mk A260
                clear A260
                by_cases c27 : t300 = 0
                · rw [if_pos c27] at H
                  have c27b0 : (t300 == 0) = true := beq_iff_eq.mpr c27
                  have c27b1 : (t300 != 0) = false := bne_eq_false_iff_eq.mpr c27
                  clear c27
                  replace H := Option.bind_eq_some_iff.mp H
                  obtain ⟨t301, A280, H⟩ := H
                  replace H : (if t301 = true then (if t283.size + t284.size ≤ 9223372036854775807 then ((name_Right.f (t283 ++ t284)).bind fun t302 => (if (t302 == (decide ((wrap64 ((t285.length : Int) + (t289.length : Int))) ≤ 32))) = true then ((name_Right.f (⟨#[]⟩ : ByteArray)).bind fun t303 => (some (!t303))) else (some false))) else (none)) else (some false)) = some r := H
                  have A28 := Aside0.mk A280
                  clear A280
                  by_cases c29 : t301 = true
                  · subst c29
                    have H1 : (if t283.size + t284.size ≤ 9223372036854775807 then ((name_Right.f (t283 ++ t284)).bind fun t302 => (if (t302 == (decide ((wrap64 ((t285.length : Int) + (t289.length : Int))) ≤ 32))) = true then ((name_Right.f (⟨#[]⟩ : ByteArray)).bind fun t303 => (some (!t303))) else (some false))) else (none)) = some r := by rw [if_pos rfl] at H; exact H
                    clear H
                    have H := H1
                    clear H1
                    by_cases c30 : t283.size + t284.size ≤ 9223372036854775807
                    · rw [if_pos c30] at H
                      have c30b0 := eq_true c30
                      have c30b1 : decide (t283.size + t284.size ≤ 9223372036854775807) = true := decide_eq_true c30
                      try have c30b2 : (9223372036854775807 < t283.size + t284.size) = False := eq_false (Nat.not_lt.2 c30)
                      replace H := Option.bind_eq_some_iff.mp H
                      obtain ⟨t302, A310, H⟩ := H
                      replace H : (if (t302 == (decide ((wrap64 ((t285.length : Int) + (t289.length : Int))) ≤ 32))) = true then ((name_Right.f (⟨#[]⟩ : ByteArray)).bind fun t303 => (some (!t303))) else (some false)) = some r := H
                      have A31 := Aside0.mk A310
                      clear A310
                      by_cases c32 : (t302 == (decide ((wrap64 ((t285.length : Int) + (t289.length : Int))) ≤ 32))) = true
                      · rw [if_pos c32] at H
                        have c32b0 : (t302 == (decide ((wrap64 ((t285.length : Int) + (t289.length : Int))) ≤ 32))) = true := c32
                        (try (have c32b1 : decide (t302 = (decide ((wrap64 ((t285.length : Int) + (t289.length : Int))) ≤ 32))) = true := by simpa using c32))
                        (try (have c32b2 : (t302 == (decide ((wrap64 ((t285.length : Int) + (t289.length : Int))) ≤ 32))) = true := by simpa using c32))
                        clear c32
                        replace H := Option.bind_eq_some_iff.mp H
                        obtain ⟨t303, A330, H⟩ := H
                        replace H : (some (!t303)) = some r := H
                        have A33 := Aside0.mk A330
                        clear A330
                        obtain rfl := Option.some.inj H
                        obtain ⟨Ao34, co34, eo34⟩ := Kd.R_slice HO_12.out
                        subst eo34
                        go_wp2_with (first | ((with_reducible refine gate_callee (f := 20) rfl ?_); refine goesL_ (some 51) rfl rfl Tryd.func20 (by kernel_rfl) rfl #[.int .i64 a2, .int .i64 (t285.length : Int)] rfl (by (try simp only [List.map_toArray, List.map_cons, List.map_nil]); first | done | rfl | (simp only [List.length_drop, List.length_take]; rfl)) ?_; (with_reducible refine (letterlocklaw1_pick.calls a2 (t285.length : Int) t293 _ A21.out).mono ?_); rintro e w' ⟨rfl, ⟨nd, rfl⟩⟩; refine ⟨_, rfl, ?_⟩) | ((with_reducible refine gate_callee (f := 20) rfl ?_); refine goesL_ (some 59) rfl rfl Tryd.func20 (by kernel_rfl) rfl #[.int .i64 a3, .int .i64 (wrap64 ((t285.length : Int) - t293))] rfl (by (try simp only [List.map_toArray, List.map_cons, List.map_nil]); first | done | rfl | (simp only [List.length_drop, List.length_take]; rfl)) ?_; (with_reducible refine (letterlocklaw1_pick.calls a3 (wrap64 ((t285.length : Int) - t293)) t294 _ A22.out).mono ?_); rintro e w' ⟨rfl, ⟨nd, rfl⟩⟩; refine ⟨_, rfl, ?_⟩; have q35 : ((wrap64 ((wrap64 (t293 + 1)) + t294)) : Int) ≤ ((t285.length : Int) : Int) := of_decide_eq_true (by first | (with_reducible assumption) | assumption); obtain ⟨i035, hi035, _, hsz35, _⟩ := info_parts info21; have hroom35 : t285.length ≤ co34 := (Kd.R_reads' HO_12.out).2.1; have hC35 : Kd.C (Kd.int .i32) _ Ao34 t285.length t285 := (Kd.R_reads' HO_12.out).2.2; have ql35 : (t293 : Int) ≤ ((wrap64 ((wrap64 (t293 + 1)) + t294)) : Int) := of_decide_eq_true (by first | (with_reducible assumption) | assumption); have q035 : (0 : Int) ≤ (t293 : Int) := of_decide_eq_true (by first | (with_reducible assumption) | assumption); have hcut35 := cut_mid (P := Tryd.prog) 33 21 .i64 .i64 Tryd.underlying33 hi035 1 hsz35 Ao34 t285.length co34 t293 (wrap64 ((wrap64 (t293 + 1)) + t294)) q035 ql35 q35 hroom35; have hr35 := Kd.C_mid (lo := (t293 : Int).toNat) (hi := ((wrap64 ((wrap64 (t293 + 1)) + t294)) : Int).toNat) (c := co34) hC35 (by omega) (by omega) hroom35; obtain ⟨A35, hA35⟩ : ∃ A1, A1 = (if co34 = (t293 : Int).toNat then Ao34 else (Ao34 : Option Addr).map (·.add ((t293 : Int).toNat * 1))) := ⟨_, rfl⟩; obtain ⟨c35, hc35⟩ : ∃ c1, c1 = co34 - (t293 : Int).toNat := ⟨_, rfl⟩; have hy35 : y295.length = ((wrap64 ((wrap64 (t293 + 1)) + t294)) : Int).toNat - (t293 : Int).toNat := (by rw [Ny295.out, List.length_drop, List.length_take] <;> omega); rw [show ((t285).take ((wrap64 ((wrap64 (t293 + 1)) + t294)) : Int).toNat).drop (t293 : Int).toNat = y295 from Ny295.out.symm] at hr35; replace hr35 : Kd.C (Kd.int .i32) _ A35 y295.length y295 := (by rw [hA35]; exact hr35); rw [← hy35, ← hA35, ← hc35] at hcut35; have HR298 := Aside0.mk hr35; have HC298 := Aside0.mk (show y295.length ≤ c35 from by rw [hy35, hc35]; exact Nat.sub_le_sub_right (Nat.le_trans (by omega) hroom35) _); clear hr35 hC35 hroom35 hi035 hsz35 hc35; have KY35 := Aside0.mk hy35; have KA35 := Aside0.mk hA35; clear hy35 hA35; have KL35 := Aside0.mk (show ((wrap64 ((wrap64 (t293 + 1)) + t294)) : Int).toNat ≤ t285.length from by omega); have KM35 := Aside0.mk (show (t293 : Int).toNat ≤ ((wrap64 ((wrap64 (t293 + 1)) + t294)) : Int).toNat from by omega); replace q35 := eq_true q35) | ((with_reducible refine gate_callee (f := 18) rfl ?_); refine goesL_ (some 66) rfl rfl Tryd.func18 (by kernel_rfl) rfl #[.slice A35 y295.length c35] rfl (by (try simp only [List.map_toArray, List.map_cons, List.map_nil]); first | done | rfl | (simp only [List.length_drop, List.length_take]; rfl)) ?_; (with_reducible refine (name_Make.calls _ _ y295 t299 t300 _ ?side1 ?side2 A26.out).mono ?_); (case side1 => repeat (first | exact (by repeat (first | (with_reducible exact HR298.out) | (with_reducible refine Kd.C_alloc ?_ _) | (with_reducible refine Kd.C_drewN ?_ _) | (with_reducible refine Kd.C_drew ?_) | exact HR298.out)) | (with_reducible refine Kd.C_alloc ?_ _) | (with_reducible refine Kd.C_drewN ?_ _) | (with_reducible refine Kd.C_drew ?_))); (case side2 => exact HC298.out); rintro e w36 ⟨rfl, hb⟩; refine ⟨_, rfl, ?_⟩; have n0_ := Aside0.mk (Kd.R_below (by (with_reducible repeat (first | apply Kd.R_alloc | apply Kd.R_drewN | apply Kd.R_drew)); exact HO_12.out) hb); have n1_ := Aside0.mk (Kd.R_below (by (with_reducible repeat (first | apply Kd.R_alloc | apply Kd.R_drewN | apply Kd.R_drew)); exact HO_14.out) hb); have n2_ := Aside0.mk (Kd.C_below (by repeat (first | (with_reducible exact HR298.out) | (with_reducible refine Kd.C_alloc ?_ _) | (with_reducible refine Kd.C_drewN ?_ _) | (with_reducible refine Kd.C_drew ?_) | exact HR298.out)) hb); have n3_ := Aside0.mk (below_step (by repeat (first | (with_reducible first | exact HB.out | apply below_alloc | apply pw_below_drewN | apply below_drew1) | exact HB.out)) hb); clear HO_12; clear HO_14; clear HR298; clear HB; have HO_12 := n0_; have HO_14 := n1_; have HR298 := n2_; have HB := n3_; clear n0_ n1_ n2_ n3_; (try clear hb); (try clear hb2); (try clear hk); (try clear hi)) | (go_at_call 21; (with_reducible refine (name_Right.calls t299 true _ ?side1 A28.out).mono ?_); (case side1 => exact ⟨Tabs.below HTB.out (by repeat (first | (with_reducible first | exact HB.out | apply below_alloc | apply pw_below_drewN | apply below_drew1) | exact HB.out))⟩); rintro e w37 ⟨rfl, hb⟩; have n0_ := Aside0.mk (Kd.R_below (by (with_reducible repeat (first | apply Kd.R_alloc | apply Kd.R_drewN | apply Kd.R_drew)); exact HO_12.out) hb); have n1_ := Aside0.mk (Kd.R_below (by (with_reducible repeat (first | apply Kd.R_alloc | apply Kd.R_drewN | apply Kd.R_drew)); exact HO_14.out) hb); have n2_ := Aside0.mk (Kd.C_below (by repeat (first | (with_reducible exact HR298.out) | (with_reducible refine Kd.C_alloc ?_ _) | (with_reducible refine Kd.C_drewN ?_ _) | (with_reducible refine Kd.C_drew ?_) | exact HR298.out)) hb); have n3_ := Aside0.mk (below_step (by repeat (first | (with_reducible first | exact HB.out | apply below_alloc | apply pw_below_drewN | apply below_drew1) | exact HB.out)) hb); clear HO_12; clear HO_14; clear HR298; clear HB; have HO_12 := n0_; have HO_14 := n1_; have HR298 := n2_; have HB := n3_; clear n0_ n1_ n2_ n3_; (try clear hb); (try clear hb2); (try clear hk); (try clear hi)) | (go_at_call 21; (with_reducible refine (name_Right.calls (t283 ++ t284) t302 _ ?side1 A31.out).mono ?_); (case side1 => exact ⟨Tabs.below HTB.out (by repeat (first | (with_reducible first | exact HB.out | apply below_alloc | apply pw_below_drewN | apply below_drew1) | exact HB.out))⟩); rintro e w38 ⟨rfl, hb⟩; have n0_ := Aside0.mk (Kd.R_below (by (with_reducible repeat (first | apply Kd.R_alloc | apply Kd.R_drewN | apply Kd.R_drew)); exact HO_12.out) hb); have n1_ := Aside0.mk (Kd.R_below (by (with_reducible repeat (first | apply Kd.R_alloc | apply Kd.R_drewN | apply Kd.R_drew)); exact HO_14.out) hb); have n2_ := Aside0.mk (Kd.C_below (by repeat (first | (with_reducible exact HR298.out) | (with_reducible refine Kd.C_alloc ?_ _) | (with_reducible refine Kd.C_drewN ?_ _) | (with_reducible refine Kd.C_drew ?_) | exact HR298.out)) hb); have n3_ := Aside0.mk (below_step (by repeat (first | (with_reducible first | exact HB.out | apply below_alloc | apply pw_below_drewN | apply below_drew1) | exact HB.out)) hb); clear HO_12; clear HO_14; clear HR298; clear HB; have HO_12 := n0_; have HO_14 := n1_; have HR298 := n2_; have HB := n3_; clear n0_ n1_ n2_ n3_; (try clear hb); (try clear hb2); (try clear hk); (try clear hi); obtain ⟨Ao39, co39, eo39⟩ := Kd.R_slice HO_14.out; subst eo39) | (go_at_call 21; (with_reducible refine (name_Right.calls (⟨#[]⟩ : ByteArray) t303 _ ?side1 A33.out).mono ?_); (case side1 => exact ⟨Tabs.below HTB.out (by repeat (first | (with_reducible first | exact HB.out | apply below_alloc | apply pw_below_drewN | apply below_drew1) | exact HB.out))⟩); rintro e w40 ⟨rfl, hb⟩; have n0_ := Aside0.mk (Kd.R_below (by (with_reducible repeat (first | apply Kd.R_alloc | apply Kd.R_drewN | apply Kd.R_drew)); exact HO_12.out) hb); have n1_ := Aside0.mk (Kd.R_below (by (with_reducible repeat (first | apply Kd.R_alloc | apply Kd.R_drewN | apply Kd.R_drew)); exact HO_14.out) hb); have n2_ := Aside0.mk (Kd.C_below (by repeat (first | (with_reducible exact HR298.out) | (with_reducible refine Kd.C_alloc ?_ _) | (with_reducible refine Kd.C_drewN ?_ _) | (with_reducible refine Kd.C_drew ?_) | exact HR298.out)) hb); have n3_ := Aside0.mk (below_step (by repeat (first | (with_reducible first | exact HB.out | apply below_alloc | apply pw_below_drewN | apply below_drew1) | exact HB.out)) hb); clear HO_12; clear HO_14; clear HR298; clear HB; have HO_12 := n0_; have HO_14 := n1_; have HR298 := n2_; have HB := n3_; clear n0_ n1_ n2_ n3_; (try clear hb); (try clear hb2); (try clear hk); (try clear hi)))
                        go_ret
                        exact ⟨by first | rfl | (simp [errW_none, errW_some] <;> rfl) | (simp [*, errW_none, errW_some] <;> rfl), by repeat (first | (with_reducible first | exact HB.out | apply below_alloc | apply pw_below_drewN | apply below_drew1) | exact HB.out)⟩
                      · rw [if_neg c32] at H
                        have c32b0 : (t302 == (decide ((wrap64 ((t285.length : Int) + (t289.length : Int))) ≤ 32))) = false := by simpa using c32
                        (try (have c32b1 : decide (t302 = (decide ((wrap64 ((t285.length : Int) + (t289.length : Int))) ≤ 32))) = false := by simpa using c32))
                        (try (have c32b2 : (t302 == (decide ((wrap64 ((t285.length : Int) + (t289.length : Int))) ≤ 32))) = false := by simpa using c32))
                        (try (have c32b3 : ¬ (t302 = (decide ((wrap64 ((t285.length : Int) + (t289.length : Int))) ≤ 32))) := by simpa using c32))
                        clear c32
                        obtain rfl := Option.some.inj H
                        obtain ⟨Ao41, co41, eo41⟩ := Kd.R_slice HO_12.out
                        subst eo41
                        go_wp2_with (first | ((with_reducible refine gate_callee (f := 20) rfl ?_); refine goesL_ (some 51) rfl rfl Tryd.func20 (by kernel_rfl) rfl #[.int .i64 a2, .int .i64 (t285.length : Int)] rfl (by (try simp only [List.map_toArray, List.map_cons, List.map_nil]); first | done | rfl | (simp only [List.length_drop, List.length_take]; rfl)) ?_; (with_reducible refine (letterlocklaw1_pick.calls a2 (t285.length : Int) t293 _ A21.out).mono ?_); rintro e w' ⟨rfl, ⟨nd, rfl⟩⟩; refine ⟨_, rfl, ?_⟩) | ((with_reducible refine gate_callee (f := 20) rfl ?_); refine goesL_ (some 59) rfl rfl Tryd.func20 (by kernel_rfl) rfl #[.int .i64 a3, .int .i64 (wrap64 ((t285.length : Int) - t293))] rfl (by (try simp only [List.map_toArray, List.map_cons, List.map_nil]); first | done | rfl | (simp only [List.length_drop, List.length_take]; rfl)) ?_; (with_reducible refine (letterlocklaw1_pick.calls a3 (wrap64 ((t285.length : Int) - t293)) t294 _ A22.out).mono ?_); rintro e w' ⟨rfl, ⟨nd, rfl⟩⟩; refine ⟨_, rfl, ?_⟩; have q42 : ((wrap64 ((wrap64 (t293 + 1)) + t294)) : Int) ≤ ((t285.length : Int) : Int) := of_decide_eq_true (by first | (with_reducible assumption) | assumption); obtain ⟨i042, hi042, _, hsz42, _⟩ := info_parts info21; have hroom42 : t285.length ≤ co41 := (Kd.R_reads' HO_12.out).2.1; have hC42 : Kd.C (Kd.int .i32) _ Ao41 t285.length t285 := (Kd.R_reads' HO_12.out).2.2; have ql42 : (t293 : Int) ≤ ((wrap64 ((wrap64 (t293 + 1)) + t294)) : Int) := of_decide_eq_true (by first | (with_reducible assumption) | assumption); have q042 : (0 : Int) ≤ (t293 : Int) := of_decide_eq_true (by first | (with_reducible assumption) | assumption); have hcut42 := cut_mid (P := Tryd.prog) 33 21 .i64 .i64 Tryd.underlying33 hi042 1 hsz42 Ao41 t285.length co41 t293 (wrap64 ((wrap64 (t293 + 1)) + t294)) q042 ql42 q42 hroom42; have hr42 := Kd.C_mid (lo := (t293 : Int).toNat) (hi := ((wrap64 ((wrap64 (t293 + 1)) + t294)) : Int).toNat) (c := co41) hC42 (by omega) (by omega) hroom42; obtain ⟨A42, hA42⟩ : ∃ A1, A1 = (if co41 = (t293 : Int).toNat then Ao41 else (Ao41 : Option Addr).map (·.add ((t293 : Int).toNat * 1))) := ⟨_, rfl⟩; obtain ⟨c42, hc42⟩ : ∃ c1, c1 = co41 - (t293 : Int).toNat := ⟨_, rfl⟩; have hy42 : y295.length = ((wrap64 ((wrap64 (t293 + 1)) + t294)) : Int).toNat - (t293 : Int).toNat := (by rw [Ny295.out, List.length_drop, List.length_take] <;> omega); rw [show ((t285).take ((wrap64 ((wrap64 (t293 + 1)) + t294)) : Int).toNat).drop (t293 : Int).toNat = y295 from Ny295.out.symm] at hr42; replace hr42 : Kd.C (Kd.int .i32) _ A42 y295.length y295 := (by rw [hA42]; exact hr42); rw [← hy42, ← hA42, ← hc42] at hcut42; have HR298 := Aside0.mk hr42; have HC298 := Aside0.mk (show y295.length ≤ c42 from by rw [hy42, hc42]; exact Nat.sub_le_sub_right (Nat.le_trans (by omega) hroom42) _); clear hr42 hC42 hroom42 hi042 hsz42 hc42; have KY42 := Aside0.mk hy42; have KA42 := Aside0.mk hA42; clear hy42 hA42; have KL42 := Aside0.mk (show ((wrap64 ((wrap64 (t293 + 1)) + t294)) : Int).toNat ≤ t285.length from by omega); have KM42 := Aside0.mk (show (t293 : Int).toNat ≤ ((wrap64 ((wrap64 (t293 + 1)) + t294)) : Int).toNat from by omega); replace q42 := eq_true q42) | ((with_reducible refine gate_callee (f := 18) rfl ?_); refine goesL_ (some 66) rfl rfl Tryd.func18 (by kernel_rfl) rfl #[.slice A42 y295.length c42] rfl (by (try simp only [List.map_toArray, List.map_cons, List.map_nil]); first | done | rfl | (simp only [List.length_drop, List.length_take]; rfl)) ?_; (with_reducible refine (name_Make.calls _ _ y295 t299 t300 _ ?side1 ?side2 A26.out).mono ?_); (case side1 => repeat (first | exact (by repeat (first | (with_reducible exact HR298.out) | (with_reducible refine Kd.C_alloc ?_ _) | (with_reducible refine Kd.C_drewN ?_ _) | (with_reducible refine Kd.C_drew ?_) | exact HR298.out)) | (with_reducible refine Kd.C_alloc ?_ _) | (with_reducible refine Kd.C_drewN ?_ _) | (with_reducible refine Kd.C_drew ?_))); (case side2 => exact HC298.out); rintro e w43 ⟨rfl, hb⟩; refine ⟨_, rfl, ?_⟩; have n0_ := Aside0.mk (Kd.R_below (by (with_reducible repeat (first | apply Kd.R_alloc | apply Kd.R_drewN | apply Kd.R_drew)); exact HO_12.out) hb); have n1_ := Aside0.mk (Kd.R_below (by (with_reducible repeat (first | apply Kd.R_alloc | apply Kd.R_drewN | apply Kd.R_drew)); exact HO_14.out) hb); have n2_ := Aside0.mk (Kd.C_below (by repeat (first | (with_reducible exact HR298.out) | (with_reducible refine Kd.C_alloc ?_ _) | (with_reducible refine Kd.C_drewN ?_ _) | (with_reducible refine Kd.C_drew ?_) | exact HR298.out)) hb); have n3_ := Aside0.mk (below_step (by repeat (first | (with_reducible first | exact HB.out | apply below_alloc | apply pw_below_drewN | apply below_drew1) | exact HB.out)) hb); clear HO_12; clear HO_14; clear HR298; clear HB; have HO_12 := n0_; have HO_14 := n1_; have HR298 := n2_; have HB := n3_; clear n0_ n1_ n2_ n3_; (try clear hb); (try clear hb2); (try clear hk); (try clear hi)) | (go_at_call 21; (with_reducible refine (name_Right.calls t299 true _ ?side1 A28.out).mono ?_); (case side1 => exact ⟨Tabs.below HTB.out (by repeat (first | (with_reducible first | exact HB.out | apply below_alloc | apply pw_below_drewN | apply below_drew1) | exact HB.out))⟩); rintro e w44 ⟨rfl, hb⟩; have n0_ := Aside0.mk (Kd.R_below (by (with_reducible repeat (first | apply Kd.R_alloc | apply Kd.R_drewN | apply Kd.R_drew)); exact HO_12.out) hb); have n1_ := Aside0.mk (Kd.R_below (by (with_reducible repeat (first | apply Kd.R_alloc | apply Kd.R_drewN | apply Kd.R_drew)); exact HO_14.out) hb); have n2_ := Aside0.mk (Kd.C_below (by repeat (first | (with_reducible exact HR298.out) | (with_reducible refine Kd.C_alloc ?_ _) | (with_reducible refine Kd.C_drewN ?_ _) | (with_reducible refine Kd.C_drew ?_) | exact HR298.out)) hb); have n3_ := Aside0.mk (below_step (by repeat (first | (with_reducible first | exact HB.out | apply below_alloc | apply pw_below_drewN | apply below_drew1) | exact HB.out)) hb); clear HO_12; clear HO_14; clear HR298; clear HB; have HO_12 := n0_; have HO_14 := n1_; have HR298 := n2_; have HB := n3_; clear n0_ n1_ n2_ n3_; (try clear hb); (try clear hb2); (try clear hk); (try clear hi)) | (go_at_call 21; (with_reducible refine (name_Right.calls (t283 ++ t284) t302 _ ?side1 A31.out).mono ?_); (case side1 => exact ⟨Tabs.below HTB.out (by repeat (first | (with_reducible first | exact HB.out | apply below_alloc | apply pw_below_drewN | apply below_drew1) | exact HB.out))⟩); rintro e w45 ⟨rfl, hb⟩; have n0_ := Aside0.mk (Kd.R_below (by (with_reducible repeat (first | apply Kd.R_alloc | apply Kd.R_drewN | apply Kd.R_drew)); exact HO_12.out) hb); have n1_ := Aside0.mk (Kd.R_below (by (with_reducible repeat (first | apply Kd.R_alloc | apply Kd.R_drewN | apply Kd.R_drew)); exact HO_14.out) hb); have n2_ := Aside0.mk (Kd.C_below (by repeat (first | (with_reducible exact HR298.out) | (with_reducible refine Kd.C_alloc ?_ _) | (with_reducible refine Kd.C_drewN ?_ _) | (with_reducible refine Kd.C_drew ?_) | exact HR298.out)) hb); have n3_ := Aside0.mk (below_step (by repeat (first | (with_reducible first | exact HB.out | apply below_alloc | apply pw_below_drewN | apply below_drew1) | exact HB.out)) hb); clear HO_12; clear HO_14; clear HR298; clear HB; have HO_12 := n0_; have HO_14 := n1_; have HR298 := n2_; have HB := n3_; clear n0_ n1_ n2_ n3_; (try clear hb); (try clear hb2); (try clear hk); (try clear hi); obtain ⟨Ao46, co46, eo46⟩ := Kd.R_slice HO_14.out; subst eo46))
                        go_ret
                        exact ⟨by first | rfl | (simp [errW_none, errW_some] <;> rfl) | (simp [*, errW_none, errW_some] <;> rfl), by repeat (first | (with_reducible first | exact HB.out | apply below_alloc | apply pw_below_drewN | apply below_drew1) | exact HB.out)⟩
                    · rw [if_neg c30] at H
                      exact absurd H (by simp)
                  · replace c29 := Bool.eq_false_iff.mpr c29
                    subst c29
                    have H1 : (some false) = some r := by rw [if_neg (show ¬ (false = true) by decide)] at H; exact H
                    clear H
                    have H := H1
                    clear H1
                    obtain rfl := Option.some.inj H
                    obtain ⟨Ao47, co47, eo47⟩ := Kd.R_slice HO_12.out
                    subst eo47
                    go_wp2_with (first | ((with_reducible refine gate_callee (f := 20) rfl ?_); refine goesL_ (some 51) rfl rfl Tryd.func20 (by kernel_rfl) rfl #[.int .i64 a2, .int .i64 (t285.length : Int)] rfl (by (try simp only [List.map_toArray, List.map_cons, List.map_nil]); first | done | rfl | (simp only [List.length_drop, List.length_take]; rfl)) ?_; (with_reducible refine (letterlocklaw1_pick.calls a2 (t285.length : Int) t293 _ A21.out).mono ?_); rintro e w' ⟨rfl, ⟨nd, rfl⟩⟩; refine ⟨_, rfl, ?_⟩) | ((with_reducible refine gate_callee (f := 20) rfl ?_); refine goesL_ (some 59) rfl rfl Tryd.func20 (by kernel_rfl) rfl #[.int .i64 a3, .int .i64 (wrap64 ((t285.length : Int) - t293))] rfl (by (try simp only [List.map_toArray, List.map_cons, List.map_nil]); first | done | rfl | (simp only [List.length_drop, List.length_take]; rfl)) ?_; (with_reducible refine (letterlocklaw1_pick.calls a3 (wrap64 ((t285.length : Int) - t293)) t294 _ A22.out).mono ?_); rintro e w' ⟨rfl, ⟨nd, rfl⟩⟩; refine ⟨_, rfl, ?_⟩; have q48 : ((wrap64 ((wrap64 (t293 + 1)) + t294)) : Int) ≤ ((t285.length : Int) : Int) := of_decide_eq_true (by first | (with_reducible assumption) | assumption); obtain ⟨i048, hi048, _, hsz48, _⟩ := info_parts info21; have hroom48 : t285.length ≤ co47 := (Kd.R_reads' HO_12.out).2.1; have hC48 : Kd.C (Kd.int .i32) _ Ao47 t285.length t285 := (Kd.R_reads' HO_12.out).2.2; have ql48 : (t293 : Int) ≤ ((wrap64 ((wrap64 (t293 + 1)) + t294)) : Int) := of_decide_eq_true (by first | (with_reducible assumption) | assumption); have q048 : (0 : Int) ≤ (t293 : Int) := of_decide_eq_true (by first | (with_reducible assumption) | assumption); have hcut48 := cut_mid (P := Tryd.prog) 33 21 .i64 .i64 Tryd.underlying33 hi048 1 hsz48 Ao47 t285.length co47 t293 (wrap64 ((wrap64 (t293 + 1)) + t294)) q048 ql48 q48 hroom48; have hr48 := Kd.C_mid (lo := (t293 : Int).toNat) (hi := ((wrap64 ((wrap64 (t293 + 1)) + t294)) : Int).toNat) (c := co47) hC48 (by omega) (by omega) hroom48; obtain ⟨A48, hA48⟩ : ∃ A1, A1 = (if co47 = (t293 : Int).toNat then Ao47 else (Ao47 : Option Addr).map (·.add ((t293 : Int).toNat * 1))) := ⟨_, rfl⟩; obtain ⟨c48, hc48⟩ : ∃ c1, c1 = co47 - (t293 : Int).toNat := ⟨_, rfl⟩; have hy48 : y295.length = ((wrap64 ((wrap64 (t293 + 1)) + t294)) : Int).toNat - (t293 : Int).toNat := (by rw [Ny295.out, List.length_drop, List.length_take] <;> omega); rw [show ((t285).take ((wrap64 ((wrap64 (t293 + 1)) + t294)) : Int).toNat).drop (t293 : Int).toNat = y295 from Ny295.out.symm] at hr48; replace hr48 : Kd.C (Kd.int .i32) _ A48 y295.length y295 := (by rw [hA48]; exact hr48); rw [← hy48, ← hA48, ← hc48] at hcut48; have HR298 := Aside0.mk hr48; have HC298 := Aside0.mk (show y295.length ≤ c48 from by rw [hy48, hc48]; exact Nat.sub_le_sub_right (Nat.le_trans (by omega) hroom48) _); clear hr48 hC48 hroom48 hi048 hsz48 hc48; have KY48 := Aside0.mk hy48; have KA48 := Aside0.mk hA48; clear hy48 hA48; have KL48 := Aside0.mk (show ((wrap64 ((wrap64 (t293 + 1)) + t294)) : Int).toNat ≤ t285.length from by omega); have KM48 := Aside0.mk (show (t293 : Int).toNat ≤ ((wrap64 ((wrap64 (t293 + 1)) + t294)) : Int).toNat from by omega); replace q48 := eq_true q48) | ((with_reducible refine gate_callee (f := 18) rfl ?_); refine goesL_ (some 66) rfl rfl Tryd.func18 (by kernel_rfl) rfl #[.slice A48 y295.length c48] rfl (by (try simp only [List.map_toArray, List.map_cons, List.map_nil]); first | done | rfl | (simp only [List.length_drop, List.length_take]; rfl)) ?_; (with_reducible refine (name_Make.calls _ _ y295 t299 t300 _ ?side1 ?side2 A26.out).mono ?_); (case side1 => repeat (first | exact (by repeat (first | (with_reducible exact HR298.out) | (with_reducible refine Kd.C_alloc ?_ _) | (with_reducible refine Kd.C_drewN ?_ _) | (with_reducible refine Kd.C_drew ?_) | exact HR298.out)) | (with_reducible refine Kd.C_alloc ?_ _) | (with_reducible refine Kd.C_drewN ?_ _) | (with_reducible refine Kd.C_drew ?_))); (case side2 => exact HC298.out); rintro e w49 ⟨rfl, hb⟩; refine ⟨_, rfl, ?_⟩; have n0_ := Aside0.mk (Kd.R_below (by (with_reducible repeat (first | apply Kd.R_alloc | apply Kd.R_drewN | apply Kd.R_drew)); exact HO_12.out) hb); have n1_ := Aside0.mk (Kd.R_below (by (with_reducible repeat (first | apply Kd.R_alloc | apply Kd.R_drewN | apply Kd.R_drew)); exact HO_14.out) hb); have n2_ := Aside0.mk (Kd.C_below (by repeat (first | (with_reducible exact HR298.out) | (with_reducible refine Kd.C_alloc ?_ _) | (with_reducible refine Kd.C_drewN ?_ _) | (with_reducible refine Kd.C_drew ?_) | exact HR298.out)) hb); have n3_ := Aside0.mk (below_step (by repeat (first | (with_reducible first | exact HB.out | apply below_alloc | apply pw_below_drewN | apply below_drew1) | exact HB.out)) hb); clear HO_12; clear HO_14; clear HR298; clear HB; have HO_12 := n0_; have HO_14 := n1_; have HR298 := n2_; have HB := n3_; clear n0_ n1_ n2_ n3_; (try clear hb); (try clear hb2); (try clear hk); (try clear hi)) | (go_at_call 21; (with_reducible refine (name_Right.calls t299 false _ ?side1 A28.out).mono ?_); (case side1 => exact ⟨Tabs.below HTB.out (by repeat (first | (with_reducible first | exact HB.out | apply below_alloc | apply pw_below_drewN | apply below_drew1) | exact HB.out))⟩); rintro e w50 ⟨rfl, hb⟩; have n0_ := Aside0.mk (Kd.R_below (by (with_reducible repeat (first | apply Kd.R_alloc | apply Kd.R_drewN | apply Kd.R_drew)); exact HO_12.out) hb); have n1_ := Aside0.mk (Kd.R_below (by (with_reducible repeat (first | apply Kd.R_alloc | apply Kd.R_drewN | apply Kd.R_drew)); exact HO_14.out) hb); have n2_ := Aside0.mk (Kd.C_below (by repeat (first | (with_reducible exact HR298.out) | (with_reducible refine Kd.C_alloc ?_ _) | (with_reducible refine Kd.C_drewN ?_ _) | (with_reducible refine Kd.C_drew ?_) | exact HR298.out)) hb); have n3_ := Aside0.mk (below_step (by repeat (first | (with_reducible first | exact HB.out | apply below_alloc | apply pw_below_drewN | apply below_drew1) | exact HB.out)) hb); clear HO_12; clear HO_14; clear HR298; clear HB; have HO_12 := n0_; have HO_14 := n1_; have HR298 := n2_; have HB := n3_; clear n0_ n1_ n2_ n3_; (try clear hb); (try clear hb2); (try clear hk); (try clear hi)))
                    go_ret
                    exact ⟨by first | rfl | (simp [errW_none, errW_some] <;> rfl) | (simp [*, errW_none, errW_some] <;> rfl), by repeat (first | (with_reducible first | exact HB.out | apply below_alloc | apply pw_below_drewN | apply below_drew1) | exact HB.out)⟩
                · rw [if_neg c27] at H
                  have c27b0 : (t300 == 0) = false := beq_eq_false_iff_ne.mpr c27
                  have c27b1 : (t300 != 0) = true := bne_iff_ne.mpr c27
                  obtain rfl := Option.some.inj H
                  obtain ⟨Ao51, co51, eo51⟩ := Kd.R_slice HO_12.out
                  subst eo51
                  go_wp2_with (first | ((with_reducible refine gate_callee (f := 20) rfl ?_); refine goesL_ (some 51) rfl rfl Tryd.func20 (by kernel_rfl) rfl #[.int .i64 a2, .int .i64 (t285.length : Int)] rfl (by (try simp only [List.map_toArray, List.map_cons, List.map_nil]); first | done | rfl | (simp only [List.length_drop, List.length_take]; rfl)) ?_; (with_reducible refine (letterlocklaw1_pick.calls a2 (t285.length : Int) t293 _ A21.out).mono ?_); rintro e w' ⟨rfl, ⟨nd, rfl⟩⟩; refine ⟨_, rfl, ?_⟩) | ((with_reducible refine gate_callee (f := 20) rfl ?_); refine goesL_ (some 59) rfl rfl Tryd.func20 (by kernel_rfl) rfl #[.int .i64 a3, .int .i64 (wrap64 ((t285.length : Int) - t293))] rfl (by (try simp only [List.map_toArray, List.map_cons, List.map_nil]); first | done | rfl | (simp only [List.length_drop, List.length_take]; rfl)) ?_; (with_reducible refine (letterlocklaw1_pick.calls a3 (wrap64 ((t285.length : Int) - t293)) t294 _ A22.out).mono ?_); rintro e w' ⟨rfl, ⟨nd, rfl⟩⟩; refine ⟨_, rfl, ?_⟩; have q52 : ((wrap64 ((wrap64 (t293 + 1)) + t294)) : Int) ≤ ((t285.length : Int) : Int) := of_decide_eq_true (by first | (with_reducible assumption) | assumption); obtain ⟨i052, hi052, _, hsz52, _⟩ := info_parts info21; have hroom52 : t285.length ≤ co51 := (Kd.R_reads' HO_12.out).2.1; have hC52 : Kd.C (Kd.int .i32) _ Ao51 t285.length t285 := (Kd.R_reads' HO_12.out).2.2; have ql52 : (t293 : Int) ≤ ((wrap64 ((wrap64 (t293 + 1)) + t294)) : Int) := of_decide_eq_true (by first | (with_reducible assumption) | assumption); have q052 : (0 : Int) ≤ (t293 : Int) := of_decide_eq_true (by first | (with_reducible assumption) | assumption); have hcut52 := cut_mid (P := Tryd.prog) 33 21 .i64 .i64 Tryd.underlying33 hi052 1 hsz52 Ao51 t285.length co51 t293 (wrap64 ((wrap64 (t293 + 1)) + t294)) q052 ql52 q52 hroom52; have hr52 := Kd.C_mid (lo := (t293 : Int).toNat) (hi := ((wrap64 ((wrap64 (t293 + 1)) + t294)) : Int).toNat) (c := co51) hC52 (by omega) (by omega) hroom52; obtain ⟨A52, hA52⟩ : ∃ A1, A1 = (if co51 = (t293 : Int).toNat then Ao51 else (Ao51 : Option Addr).map (·.add ((t293 : Int).toNat * 1))) := ⟨_, rfl⟩; obtain ⟨c52, hc52⟩ : ∃ c1, c1 = co51 - (t293 : Int).toNat := ⟨_, rfl⟩; have hy52 : y295.length = ((wrap64 ((wrap64 (t293 + 1)) + t294)) : Int).toNat - (t293 : Int).toNat := (by rw [Ny295.out, List.length_drop, List.length_take] <;> omega); rw [show ((t285).take ((wrap64 ((wrap64 (t293 + 1)) + t294)) : Int).toNat).drop (t293 : Int).toNat = y295 from Ny295.out.symm] at hr52; replace hr52 : Kd.C (Kd.int .i32) _ A52 y295.length y295 := (by rw [hA52]; exact hr52); rw [← hy52, ← hA52, ← hc52] at hcut52; have HR298 := Aside0.mk hr52; have HC298 := Aside0.mk (show y295.length ≤ c52 from by rw [hy52, hc52]; exact Nat.sub_le_sub_right (Nat.le_trans (by omega) hroom52) _); clear hr52 hC52 hroom52 hi052 hsz52 hc52; have KY52 := Aside0.mk hy52; have KA52 := Aside0.mk hA52; clear hy52 hA52; have KL52 := Aside0.mk (show ((wrap64 ((wrap64 (t293 + 1)) + t294)) : Int).toNat ≤ t285.length from by omega); have KM52 := Aside0.mk (show (t293 : Int).toNat ≤ ((wrap64 ((wrap64 (t293 + 1)) + t294)) : Int).toNat from by omega); replace q52 := eq_true q52) | ((with_reducible refine gate_callee (f := 18) rfl ?_); refine goesL_ (some 66) rfl rfl Tryd.func18 (by kernel_rfl) rfl #[.slice A52 y295.length c52] rfl (by (try simp only [List.map_toArray, List.map_cons, List.map_nil]); first | done | rfl | (simp only [List.length_drop, List.length_take]; rfl)) ?_; (with_reducible refine (name_Make.calls _ _ y295 t299 t300 _ ?side1 ?side2 A26.out).mono ?_); (case side1 => repeat (first | exact (by repeat (first | (with_reducible exact HR298.out) | (with_reducible refine Kd.C_alloc ?_ _) | (with_reducible refine Kd.C_drewN ?_ _) | (with_reducible refine Kd.C_drew ?_) | exact HR298.out)) | (with_reducible refine Kd.C_alloc ?_ _) | (with_reducible refine Kd.C_drewN ?_ _) | (with_reducible refine Kd.C_drew ?_))); (case side2 => exact HC298.out); rintro e w53 ⟨rfl, hb⟩; refine ⟨_, rfl, ?_⟩; have n0_ := Aside0.mk (Kd.R_below (by (with_reducible repeat (first | apply Kd.R_alloc | apply Kd.R_drewN | apply Kd.R_drew)); exact HO_12.out) hb); have n1_ := Aside0.mk (Kd.R_below (by (with_reducible repeat (first | apply Kd.R_alloc | apply Kd.R_drewN | apply Kd.R_drew)); exact HO_14.out) hb); have n2_ := Aside0.mk (Kd.C_below (by repeat (first | (with_reducible exact HR298.out) | (with_reducible refine Kd.C_alloc ?_ _) | (with_reducible refine Kd.C_drewN ?_ _) | (with_reducible refine Kd.C_drew ?_) | exact HR298.out)) hb); have n3_ := Aside0.mk (below_step (by repeat (first | (with_reducible first | exact HB.out | apply below_alloc | apply pw_below_drewN | apply below_drew1) | exact HB.out)) hb); clear HO_12; clear HO_14; clear HR298; clear HB; have HO_12 := n0_; have HO_14 := n1_; have HR298 := n2_; have HB := n3_; clear n0_ n1_ n2_ n3_; (try clear hb); (try clear hb2); (try clear hk); (try clear hi)))
                  go_ret
                  exact ⟨by first | rfl | (simp [errW_none, errW_some] <;> rfl) | (simp [*, errW_none, errW_some] <;> rfl), by repeat (first | (with_reducible first | exact HB.out | apply below_alloc | apply pw_below_drewN | apply below_drew1) | exact HB.out)⟩
              · rw [if_neg c25] at H
                exact absurd H (by simp)
            · rw [if_neg c24] at H
              exact absurd H (by simp)
          · rw [if_neg c23] at H
            exact absurd H (by simp)
  · replace c6 := Bool.eq_false_iff.mpr c6
    subst c6
    have H1 : (some false) = some r := by rw [if_neg (show ¬ (false = true) by decide)] at H; exact H
    clear H
    have H := H1
    clear H1
    obtain rfl := Option.some.inj H
    go_enter Tryd.func7, Tryd.ntmps7
    go_wp2_with (first | ((with_reducible refine gate_callee (f := 12) rfl ?_); refine goesL_ (some 20) rfl rfl Tryd.func12 (by kernel_rfl) rfl #[] rfl (by (try simp only [List.map_toArray, List.map_cons, List.map_nil]); first | done | rfl | (simp only [List.length_drop, List.length_take]; rfl)) ?_; (with_reducible refine (letterlocklaw1_shown.calls  false _ ?side1 A5.out).mono ?_); (case side1 => exact ⟨Tabs.below HTB.out (by repeat (first | (with_reducible first | exact HB.out | apply below_alloc | apply pw_below_drewN | apply below_drew1) | exact HB.out))⟩); rintro e w54 ⟨rfl, hb⟩; refine ⟨_, rfl, ?_⟩; have n0_ := Aside0.mk (below_step (by repeat (first | (with_reducible first | exact HB.out | apply below_alloc | apply pw_below_drewN | apply below_drew1) | exact HB.out)) hb); clear HB; have HB := n0_; clear n0_; (try clear hb); (try clear hb2); (try clear hk); (try clear hi)))
    go_ret
    exact ⟨by first | rfl | (simp [errW_none, errW_some] <;> rfl) | (simp [*, errW_none, errW_some] <;> rfl), by repeat (first | (with_reducible first | exact HB.out | apply below_alloc | apply pw_below_drewN | apply below_drew1) | exact HB.out)⟩

/-! ### letterlocklaw1_NameFolds: function 10 -/
mutual
def letterlocklaw1_NameFolds.j0 : Nat → List Int → ByteArray → Bool → Bool → Option (Bool)
  | 0, _, _, _, _ => none
  | k + 1, x0, x1, x5, x24 => if x24 = true then (some x5) else ((name_Make.f x0).bind fun bt305 => (if bt305.2 = 0 then ((name_Fold.f bt305.1).bind fun t307 => ((name_Runes.f t307).bind fun bt308 => (if bt308.2 = 0 then (if (t307.size : Int) = (bt305.1.size : Int) then (if (bt308.1.length : Int) = (x0.length : Int) then ((name_Fold.f x1).bind fun t312 => (if (t312.size : Int) = (x1.size : Int) then (if bt305.1.size + x1.size ≤ 9223372036854775807 then ((name_Fold.f (bt305.1 ++ x1)).bind fun t313 => ((name_Fold.f x1).bind fun t314 => (if t307.size + t314.size ≤ 9223372036854775807 then (letterlocklaw1_NameFolds.j1 k x0 bt308.1 (t313.toList != (t307 ++ t314).toList)) else (none)))) else (none)) else (letterlocklaw1_NameFolds.j1 k x0 bt308.1 true))) else (letterlocklaw1_NameFolds.j1 k x0 bt308.1 true)) else (letterlocklaw1_NameFolds.j1 k x0 bt308.1 true)) else (letterlocklaw1_NameFolds.j1 k x0 bt308.1 true)))) else (some (bt305.1.toList == ([] : List UInt8)))))
def letterlocklaw1_NameFolds.j1 : Nat → List Int → List Int → Bool → Option (Bool)
  | 0, _, _, _ => none
  | k + 1, x0, x9, x76 => if x76 = true then (some false) else (letterlocklaw1_NameFolds.l0 k x0 x9 0)
def letterlocklaw1_NameFolds.l0 : Nat → List Int → List Int → Int → Option (Bool)
  | 0, _, _, _ => none
  | k + 1, x0, x9, x11 => if x11 < (x0.length : Int) then (if 0 ≤ x11 then (if x11 < (x9.length : Int) then (if (rd x9 x11) = (rd x0 x11) then (letterlocklaw1_NameFolds.l0 k x0 x9 (wrap64 (x11 + 1))) else (if (rd x9 x11) = (wrap32 ((rd x0 x11) + 32)) then (letterlocklaw1_NameFolds.l0 k x0 x9 (wrap64 (x11 + 1))) else (some false))) else (none)) else (none)) else (some true)
end
def letterlocklaw1_NameFolds.f (k : Nat) (l0 : List Int) (a1 : ByteArray) : Option (Bool) := (letterlocklaw1_shown.f).bind fun t304 => (if t304 = true then (if (l0.length : Int) > 300 then (letterlocklaw1_NameFolds.j0 k l0 a1 t304 true) else (letterlocklaw1_NameFolds.j0 k l0 a1 t304 (decide ((a1.size : Int) > 1000)))) else (letterlocklaw1_NameFolds.j0 k l0 a1 t304 true))
theorem letterlocklaw1_NameFolds.mono_l : ∀ k, (∀ y0 y1 y2 y3, LeO (letterlocklaw1_NameFolds.j0 k y0 y1 y2 y3) (letterlocklaw1_NameFolds.j0 (k + 1) y0 y1 y2 y3)) ∧ (∀ y0 y1 y2, LeO (letterlocklaw1_NameFolds.j1 k y0 y1 y2) (letterlocklaw1_NameFolds.j1 (k + 1) y0 y1 y2)) ∧ (∀ y0 y1 y2, LeO (letterlocklaw1_NameFolds.l0 k y0 y1 y2) (letterlocklaw1_NameFolds.l0 (k + 1) y0 y1 y2))
  | 0 => ⟨fun _ _ _ _ r h => by simp [letterlocklaw1_NameFolds.j0] at h, fun _ _ _ r h => by simp [letterlocklaw1_NameFolds.j1] at h, fun _ _ _ r h => by simp [letterlocklaw1_NameFolds.l0] at h⟩
  | k + 1 => by
    obtain ⟨ih0, ih1, ih2⟩ := letterlocklaw1_NameFolds.mono_l k
    refine ⟨?_, ?_, ?_⟩
    · intro y0 y1 y2 y3
      unfold letterlocklaw1_NameFolds.j0
      repeat' first
      | (with_reducible exact ih0 _ _ _ _)
      | (with_reducible exact ih1 _ _ _)
      | (with_reducible exact ih2 _ _ _)
      | (with_reducible exact LeO.refl _)
      | (with_reducible exact LeO.none _)
      | (with_reducible refine LeO.ite ?_ ?_)
      | (with_reducible refine LeO.bind ?_ (fun _ => ?_))
      | exact ih0 _ _ _ _
      | exact ih1 _ _ _
      | exact ih2 _ _ _
      | exact LeO.none _
      | refine LeO.ite ?_ ?_
      | refine LeO.bind ?_ (fun _ => ?_)
    · intro y0 y1 y2
      unfold letterlocklaw1_NameFolds.j1
      repeat' first
      | (with_reducible exact ih0 _ _ _ _)
      | (with_reducible exact ih1 _ _ _)
      | (with_reducible exact ih2 _ _ _)
      | (with_reducible exact LeO.refl _)
      | (with_reducible exact LeO.none _)
      | (with_reducible refine LeO.ite ?_ ?_)
      | (with_reducible refine LeO.bind ?_ (fun _ => ?_))
      | exact ih0 _ _ _ _
      | exact ih1 _ _ _
      | exact ih2 _ _ _
      | exact LeO.none _
      | refine LeO.ite ?_ ?_
      | refine LeO.bind ?_ (fun _ => ?_)
    · intro y0 y1 y2
      unfold letterlocklaw1_NameFolds.l0
      repeat' first
      | (with_reducible exact ih0 _ _ _ _)
      | (with_reducible exact ih1 _ _ _)
      | (with_reducible exact ih2 _ _ _)
      | (with_reducible exact LeO.refl _)
      | (with_reducible exact LeO.none _)
      | (with_reducible refine LeO.ite ?_ ?_)
      | (with_reducible refine LeO.bind ?_ (fun _ => ?_))
      | exact ih0 _ _ _ _
      | exact ih1 _ _ _
      | exact ih2 _ _ _
      | exact LeO.none _
      | refine LeO.ite ?_ ?_
      | refine LeO.bind ?_ (fun _ => ?_)
theorem letterlocklaw1_NameFolds.mono : ∀ a0 a1 k, LeO (letterlocklaw1_NameFolds.f k a0 a1) (letterlocklaw1_NameFolds.f (k + 1) a0 a1) := by
  intro a0 a1 k
  obtain ⟨ih0, ih1, ih2⟩ := letterlocklaw1_NameFolds.mono_l k
  unfold letterlocklaw1_NameFolds.f
  repeat' first
      | (with_reducible exact ih0 _ _ _ _)
      | (with_reducible exact ih1 _ _ _)
      | (with_reducible exact ih2 _ _ _)
      | (with_reducible exact LeO.refl _)
      | (with_reducible exact LeO.none _)
      | (with_reducible refine LeO.ite ?_ ?_)
      | (with_reducible refine LeO.bind ?_ (fun _ => ?_))
      | exact ih0 _ _ _ _
      | exact ih1 _ _ _
      | exact ih2 _ _ _
      | exact LeO.none _
      | refine LeO.ite ?_ ?_
      | refine LeO.bind ?_ (fun _ => ?_)
set_option maxHeartbeats 8000000 in
set_option maxRecDepth 100000 in
theorem letterlocklaw1_NameFolds.calls (k : Nat) (A0 : Option Addr) (c0 : Nat) (l0 : List Int) (a1 : ByteArray) (r : Bool) (w : World) (HTB : Aside0 (Tabs w)) (hr0 : Kd.C (Kd.int .i32) w A0 l0.length l0) (hc0 : l0.length ≤ c0) (h : letterlocklaw1_NameFolds.f k l0 a1 = some r) :
    Calls Tryd.prog 10 #[.slice A0 l0.length c0, .string a1] w fun e w' => e = .returned (.bool r) ∧ Below w.heap.size w w' := by
  have HR0 := Aside0.mk hr0
  have HC0 := Aside0.mk hc0
  clear hr0 hc0
  have HB := Aside0.mk (Below.refl w.heap.size w)
  have H : ((letterlocklaw1_shown.f).bind fun t304 => (if t304 = true then (if (l0.length : Int) > 300 then (letterlocklaw1_NameFolds.j0 k l0 a1 t304 true) else (letterlocklaw1_NameFolds.j0 k l0 a1 t304 (decide ((a1.size : Int) > 1000)))) else (letterlocklaw1_NameFolds.j0 k l0 a1 t304 true))) = some r := h
  clear h
  replace H := Option.bind_eq_some_iff.mp H
  obtain ⟨t304, A30, H⟩ := H
  replace H : (if t304 = true then (if (l0.length : Int) > 300 then (letterlocklaw1_NameFolds.j0 k l0 a1 t304 true) else (letterlocklaw1_NameFolds.j0 k l0 a1 t304 (decide ((a1.size : Int) > 1000)))) else (letterlocklaw1_NameFolds.j0 k l0 a1 t304 true)) = some r := H
  have A3 := Aside0.mk A30
  clear A30
  have HC4 := Aside0.mk H
  clear H
  go_enter Tryd.func10, Tryd.ntmps10
  go_upto_region 2 with (first | (go_at_call 12; (with_reducible refine (letterlocklaw1_shown.calls  t304 _ ?side1 A3.out).mono ?_); (case side1 => exact ⟨Tabs.below HTB.out (by repeat (first | (with_reducible first | exact HB.out | apply below_alloc | apply pw_below_drewN | apply below_drew1) | exact HB.out))⟩); rintro e w5 ⟨rfl, hb⟩; have n0_ := Aside0.mk (below_step (by repeat (first | (with_reducible first | exact HB.out | apply below_alloc | apply pw_below_drewN | apply below_drew1) | exact HB.out)) hb); clear HB; have HB := n0_; clear n0_; (try clear hb); (try clear hb2); (try clear hk); (try clear hi)))
  repeat (go_quiet (first | (go_at_call 12; (with_reducible refine (letterlocklaw1_shown.calls  t304 _ ?side1 A3.out).mono ?_); (case side1 => exact ⟨Tabs.below HTB.out (by repeat (first | (with_reducible first | exact HB.out | apply below_alloc | apply pw_below_drewN | apply below_drew1) | exact HB.out))⟩); rintro e w5 ⟨rfl, hb⟩; have n0_ := Aside0.mk (below_step (by repeat (first | (with_reducible first | exact HB.out | apply below_alloc | apply pw_below_drewN | apply below_drew1) | exact HB.out)) hb); clear HB; have HB := n0_; clear n0_; (try clear hb); (try clear hb2); (try clear hk); (try clear hi))); go_upto_region 2 with (first | (go_at_call 12; (with_reducible refine (letterlocklaw1_shown.calls  t304 _ ?side1 A3.out).mono ?_); (case side1 => exact ⟨Tabs.below HTB.out (by repeat (first | (with_reducible first | exact HB.out | apply below_alloc | apply pw_below_drewN | apply below_drew1) | exact HB.out))⟩); rintro e w5 ⟨rfl, hb⟩; have n0_ := Aside0.mk (below_step (by repeat (first | (with_reducible first | exact HB.out | apply below_alloc | apply pw_below_drewN | apply below_drew1) | exact HB.out)) hb); clear HB; have HB := n0_; clear n0_; (try clear hb); (try clear hb2); (try clear hk); (try clear hi))))
  (try simp only [Act.put, List.setIfInBounds_toArray, List.set_cons_zero, List.set_cons_succ])
  go_cut [24] (fun v24 wc => ∃ (kq : Nat) (x24_3 : Bool), v24 = .bool x24_3 ∧ Aside0 (letterlocklaw1_NameFolds.j0 kq l0 a1 t304 x24_3 = some r) ∧ Aside0 (kq ≤ k) ∧ Aside0 (Below w.heap.size w wc))
  case first =>
    have H := HC4.out
    clear HC4
    by_cases c6 : t304 = true
    · subst c6
      have H1 : (if (l0.length : Int) > 300 then (letterlocklaw1_NameFolds.j0 k l0 a1 true true) else (letterlocklaw1_NameFolds.j0 k l0 a1 true (decide ((a1.size : Int) > 1000)))) = some r := by rw [if_pos rfl] at H; exact H
      clear H
      have H := H1
      clear H1
      by_cases c7 : (l0.length : Int) > 300
      · rw [if_pos c7] at H
        have c7b0 : decide (300 < (l0.length : Int)) = true := decide_eq_true c7
        have c7b1 : decide (300 < l0.length) = true := decide_eq_true (by omega)
        clear c7
        (first | rw [c7b0] | (simp only [i64_w, i32_w]; rw [c7b0]) | skip)
        have H' := Aside0.mk H
        clear H
        go_wp2
        repeat (go_quiet (fail); try go_wp2)
        go_meet
        case rel => exact ⟨_, (true), (by first | rfl | (simp; done) | (simp [*]; done)), H', ⟨by first | omega | exact Nat.le_refl _⟩, ⟨by repeat (first | (with_reducible first | exact HB.out | apply below_alloc | apply pw_below_drewN | apply below_drew1) | exact HB.out)⟩⟩
      · rw [if_neg c7] at H
        have c7b0 : decide (300 < (l0.length : Int)) = false := decide_eq_false c7
        have c7b1 : decide (300 < l0.length) = false := decide_eq_false (by omega)
        clear c7
        (first | rw [c7b0] | (simp only [i64_w, i32_w]; rw [c7b0]) | skip)
        have H' := Aside0.mk H
        clear H
        go_wp2
        repeat (go_quiet (fail); try go_wp2)
        go_meet
        case rel => exact ⟨_, (decide ((a1.size : Int) > 1000)), (by first | rfl | (simp; done) | (simp [*]; done)), H', ⟨by first | omega | exact Nat.le_refl _⟩, ⟨by repeat (first | (with_reducible first | exact HB.out | apply below_alloc | apply pw_below_drewN | apply below_drew1) | exact HB.out)⟩⟩
    · replace c6 := Bool.eq_false_iff.mpr c6
      subst c6
      have H1 : (letterlocklaw1_NameFolds.j0 k l0 a1 false true) = some r := by rw [if_neg (show ¬ (false = true) by decide)] at H; exact H
      clear H
      have H := H1
      clear H1
      have H' := Aside0.mk H
      clear H
      go_wp2
      repeat (go_quiet (fail); try go_wp2)
      go_meet
      case rel => exact ⟨_, (true), (by first | rfl | (simp; done) | (simp [*]; done)), H', ⟨by first | omega | exact Nat.le_refl _⟩, ⟨by repeat (first | (with_reducible first | exact HB.out | apply below_alloc | apply pw_below_drewN | apply below_drew1) | exact HB.out)⟩⟩
  case rest =>
    clear HC4
    try clear c1
    try clear p2
    try clear c6
    try clear c7
    try clear c7b0
    try clear c7b1
    obtain ⟨kq, x24_3, rfl, HA, HJ3, HB⟩ := hcut
    cases kq with
    | zero => exact absurd HA.out (by simp [letterlocklaw1_NameFolds.j0])
    | succ kj3 =>
      have H := HA.out
      clear HA
      simp only [letterlocklaw1_NameFolds.j0] at H
      by_cases c8 : x24_3 = true
      · subst c8
        have H1 : (some t304) = some r := by rw [if_pos rfl] at H; exact H
        clear H
        have H := H1
        clear H1
        obtain rfl := Option.some.inj H
        go_wp2
        repeat (go_quiet (fail); try go_wp2)
        go_ret
        exact ⟨by first | rfl | (simp [errW_none, errW_some] <;> rfl) | (simp [*, errW_none, errW_some] <;> rfl), by repeat (first | (with_reducible first | exact HB.out | apply below_alloc | apply pw_below_drewN | apply below_drew1) | exact HB.out)⟩
      · replace c8 := Bool.eq_false_iff.mpr c8
        subst c8
        have H1 : ((name_Make.f l0).bind fun bt305 => (if bt305.2 = 0 then ((name_Fold.f bt305.1).bind fun t307 => ((name_Runes.f t307).bind fun bt308 => (if bt308.2 = 0 then (if (t307.size : Int) = (bt305.1.size : Int) then (if (bt308.1.length : Int) = (l0.length : Int) then ((name_Fold.f a1).bind fun t312 => (if (t312.size : Int) = (a1.size : Int) then (if bt305.1.size + a1.size ≤ 9223372036854775807 then ((name_Fold.f (bt305.1 ++ a1)).bind fun t313 => ((name_Fold.f a1).bind fun t314 => (if t307.size + t314.size ≤ 9223372036854775807 then (letterlocklaw1_NameFolds.j1 kj3 l0 bt308.1 (t313.toList != (t307 ++ t314).toList)) else (none)))) else (none)) else (letterlocklaw1_NameFolds.j1 kj3 l0 bt308.1 true))) else (letterlocklaw1_NameFolds.j1 kj3 l0 bt308.1 true)) else (letterlocklaw1_NameFolds.j1 kj3 l0 bt308.1 true)) else (letterlocklaw1_NameFolds.j1 kj3 l0 bt308.1 true)))) else (some (bt305.1.toList == ([] : List UInt8))))) = some r := by rw [if_neg (show ¬ (false = true) by decide)] at H; exact H
        clear H
        have H := H1
        clear H1
        replace H := Option.bind_eq_some_iff.mp H
        obtain ⟨⟨t305, t306⟩, A90, H⟩ := H
        replace H : (if t306 = 0 then ((name_Fold.f t305).bind fun t307 => ((name_Runes.f t307).bind fun bt308 => (if bt308.2 = 0 then (if (t307.size : Int) = (t305.size : Int) then (if (bt308.1.length : Int) = (l0.length : Int) then ((name_Fold.f a1).bind fun t312 => (if (t312.size : Int) = (a1.size : Int) then (if t305.size + a1.size ≤ 9223372036854775807 then ((name_Fold.f (t305 ++ a1)).bind fun t313 => ((name_Fold.f a1).bind fun t314 => (if t307.size + t314.size ≤ 9223372036854775807 then (letterlocklaw1_NameFolds.j1 kj3 l0 bt308.1 (t313.toList != (t307 ++ t314).toList)) else (none)))) else (none)) else (letterlocklaw1_NameFolds.j1 kj3 l0 bt308.1 true))) else (letterlocklaw1_NameFolds.j1 kj3 l0 bt308.1 true)) else (letterlocklaw1_NameFolds.j1 kj3 l0 bt308.1 true)) else (letterlocklaw1_NameFolds.j1 kj3 l0 bt308.1 true)))) else (some (t305.toList == ([] : List UInt8)))) = some r := H
        have A9 := Aside0.mk A90
        clear A90
        by_cases c10 : t306 = 0
        · rw [if_pos c10] at H
          have c10b0 : (t306 == 0) = true := beq_iff_eq.mpr c10
          have c10b1 : (t306 != 0) = false := bne_eq_false_iff_eq.mpr c10
          clear c10
          replace H := Option.bind_eq_some_iff.mp H
          obtain ⟨t307, A110, H⟩ := H
          replace H : ((name_Runes.f t307).bind fun bt308 => (if bt308.2 = 0 then (if (t307.size : Int) = (t305.size : Int) then (if (bt308.1.length : Int) = (l0.length : Int) then ((name_Fold.f a1).bind fun t312 => (if (t312.size : Int) = (a1.size : Int) then (if t305.size + a1.size ≤ 9223372036854775807 then ((name_Fold.f (t305 ++ a1)).bind fun t313 => ((name_Fold.f a1).bind fun t314 => (if t307.size + t314.size ≤ 9223372036854775807 then (letterlocklaw1_NameFolds.j1 kj3 l0 bt308.1 (t313.toList != (t307 ++ t314).toList)) else (none)))) else (none)) else (letterlocklaw1_NameFolds.j1 kj3 l0 bt308.1 true))) else (letterlocklaw1_NameFolds.j1 kj3 l0 bt308.1 true)) else (letterlocklaw1_NameFolds.j1 kj3 l0 bt308.1 true)) else (letterlocklaw1_NameFolds.j1 kj3 l0 bt308.1 true))) = some r := H
          have A11 := Aside0.mk A110
          clear A110
          replace H := Option.bind_eq_some_iff.mp H
          obtain ⟨⟨t308, t309⟩, A120, H⟩ := H
          replace H : (if t309 = 0 then (if (t307.size : Int) = (t305.size : Int) then (if (t308.length : Int) = (l0.length : Int) then ((name_Fold.f a1).bind fun t312 => (if (t312.size : Int) = (a1.size : Int) then (if t305.size + a1.size ≤ 9223372036854775807 then ((name_Fold.f (t305 ++ a1)).bind fun t313 => ((name_Fold.f a1).bind fun t314 => (if t307.size + t314.size ≤ 9223372036854775807 then (letterlocklaw1_NameFolds.j1 kj3 l0 t308 (t313.toList != (t307 ++ t314).toList)) else (none)))) else (none)) else (letterlocklaw1_NameFolds.j1 kj3 l0 t308 true))) else (letterlocklaw1_NameFolds.j1 kj3 l0 t308 true)) else (letterlocklaw1_NameFolds.j1 kj3 l0 t308 true)) else (letterlocklaw1_NameFolds.j1 kj3 l0 t308 true)) = some r := H
          have A12 := Aside0.mk A120
          clear A120
          have HC13 := Aside0.mk H
          clear H
          go_upto_region 9 with (first | (go_at_call 18; (with_reducible refine (name_Make.calls _ _ l0 t305 t306 _ ?side1 ?side2 A9.out).mono ?_); (case side1 => repeat (first | exact (Kd.C_below HR0.out HB.out) | (with_reducible refine Kd.C_alloc ?_ _) | (with_reducible refine Kd.C_drewN ?_ _) | (with_reducible refine Kd.C_drew ?_))); (case side2 => exact HC0.out); rintro e w14 ⟨rfl, hb⟩; have n0_ := Aside0.mk (below_step (by repeat (first | (with_reducible first | exact HB.out | apply below_alloc | apply pw_below_drewN | apply below_drew1) | exact HB.out)) hb); clear HB; have HB := n0_; clear n0_; (try clear hb); (try clear hb2); (try clear hk); (try clear hi)) | (go_at_call 27; (with_reducible refine (name_Fold.calls t305 t307 _ ?side1 A11.out).mono ?_); (case side1 => exact ⟨Tabs.below HTB.out (by repeat (first | (with_reducible first | exact HB.out | apply below_alloc | apply pw_below_drewN | apply below_drew1) | exact HB.out))⟩); rintro e w15 ⟨rfl, hb⟩; have n0_ := Aside0.mk (below_step (by repeat (first | (with_reducible first | exact HB.out | apply below_alloc | apply pw_below_drewN | apply below_drew1) | exact HB.out)) hb); clear HB; have HB := n0_; clear n0_; (try clear hb); (try clear hb2); (try clear hk); (try clear hi)) | (go_at_call 17; (with_reducible refine (name_Runes.calls t307 t308 t309 _ ?side1 A12.out).mono ?_); (case side1 => exact ⟨Tabs.below HTB.out (by repeat (first | (with_reducible first | exact HB.out | apply below_alloc | apply pw_below_drewN | apply below_drew1) | exact HB.out))⟩); rintro e w16 ⟨v310, rfl, ho0, hb⟩; have n0_ := Aside0.mk (Kd.R_lower ho0 (below_size (by repeat (first | (with_reducible first | exact HB.out | apply below_alloc | apply pw_below_drewN | apply below_drew1) | exact HB.out)))); have n1_ := Aside0.mk (below_step (by repeat (first | (with_reducible first | exact HB.out | apply below_alloc | apply pw_below_drewN | apply below_drew1) | exact HB.out)) hb); clear HB; have HO311 := n0_; have HB := n1_; clear n0_ n1_; (try clear hb); (try clear hb2); (try clear hk); (try clear hi); (try clear ho0)))
          repeat (go_quiet (first | (go_at_call 18; (with_reducible refine (name_Make.calls _ _ l0 t305 t306 _ ?side1 ?side2 A9.out).mono ?_); (case side1 => repeat (first | exact (Kd.C_below HR0.out HB.out) | (with_reducible refine Kd.C_alloc ?_ _) | (with_reducible refine Kd.C_drewN ?_ _) | (with_reducible refine Kd.C_drew ?_))); (case side2 => exact HC0.out); rintro e w14 ⟨rfl, hb⟩; have n0_ := Aside0.mk (below_step (by repeat (first | (with_reducible first | exact HB.out | apply below_alloc | apply pw_below_drewN | apply below_drew1) | exact HB.out)) hb); clear HB; have HB := n0_; clear n0_; (try clear hb); (try clear hb2); (try clear hk); (try clear hi)) | (go_at_call 27; (with_reducible refine (name_Fold.calls t305 t307 _ ?side1 A11.out).mono ?_); (case side1 => exact ⟨Tabs.below HTB.out (by repeat (first | (with_reducible first | exact HB.out | apply below_alloc | apply pw_below_drewN | apply below_drew1) | exact HB.out))⟩); rintro e w15 ⟨rfl, hb⟩; have n0_ := Aside0.mk (below_step (by repeat (first | (with_reducible first | exact HB.out | apply below_alloc | apply pw_below_drewN | apply below_drew1) | exact HB.out)) hb); clear HB; have HB := n0_; clear n0_; (try clear hb); (try clear hb2); (try clear hk); (try clear hi)) | (go_at_call 17; (with_reducible refine (name_Runes.calls t307 t308 t309 _ ?side1 A12.out).mono ?_); (case side1 => exact ⟨Tabs.below HTB.out (by repeat (first | (with_reducible first | exact HB.out | apply below_alloc | apply pw_below_drewN | apply below_drew1) | exact HB.out))⟩); rintro e w16 ⟨v310, rfl, ho0, hb⟩; have n0_ := Aside0.mk (Kd.R_lower ho0 (below_size (by repeat (first | (with_reducible first | exact HB.out | apply below_alloc | apply pw_below_drewN | apply below_drew1) | exact HB.out)))); have n1_ := Aside0.mk (below_step (by repeat (first | (with_reducible first | exact HB.out | apply below_alloc | apply pw_below_drewN | apply below_drew1) | exact HB.out)) hb); clear HB; have HO311 := n0_; have HB := n1_; clear n0_ n1_; (try clear hb); (try clear hb2); (try clear hk); (try clear hi); (try clear ho0))); go_upto_region 9 with (first | (go_at_call 18; (with_reducible refine (name_Make.calls _ _ l0 t305 t306 _ ?side1 ?side2 A9.out).mono ?_); (case side1 => repeat (first | exact (Kd.C_below HR0.out HB.out) | (with_reducible refine Kd.C_alloc ?_ _) | (with_reducible refine Kd.C_drewN ?_ _) | (with_reducible refine Kd.C_drew ?_))); (case side2 => exact HC0.out); rintro e w14 ⟨rfl, hb⟩; have n0_ := Aside0.mk (below_step (by repeat (first | (with_reducible first | exact HB.out | apply below_alloc | apply pw_below_drewN | apply below_drew1) | exact HB.out)) hb); clear HB; have HB := n0_; clear n0_; (try clear hb); (try clear hb2); (try clear hk); (try clear hi)) | (go_at_call 27; (with_reducible refine (name_Fold.calls t305 t307 _ ?side1 A11.out).mono ?_); (case side1 => exact ⟨Tabs.below HTB.out (by repeat (first | (with_reducible first | exact HB.out | apply below_alloc | apply pw_below_drewN | apply below_drew1) | exact HB.out))⟩); rintro e w15 ⟨rfl, hb⟩; have n0_ := Aside0.mk (below_step (by repeat (first | (with_reducible first | exact HB.out | apply below_alloc | apply pw_below_drewN | apply below_drew1) | exact HB.out)) hb); clear HB; have HB := n0_; clear n0_; (try clear hb); (try clear hb2); (try clear hk); (try clear hi)) | (go_at_call 17; (with_reducible refine (name_Runes.calls t307 t308 t309 _ ?side1 A12.out).mono ?_); (case side1 => exact ⟨Tabs.below HTB.out (by repeat (first | (with_reducible first | exact HB.out | apply below_alloc | apply pw_below_drewN | apply below_drew1) | exact HB.out))⟩); rintro e w16 ⟨v310, rfl, ho0, hb⟩; have n0_ := Aside0.mk (Kd.R_lower ho0 (below_size (by repeat (first | (with_reducible first | exact HB.out | apply below_alloc | apply pw_below_drewN | apply below_drew1) | exact HB.out)))); have n1_ := Aside0.mk (below_step (by repeat (first | (with_reducible first | exact HB.out | apply below_alloc | apply pw_below_drewN | apply below_drew1) | exact HB.out)) hb); clear HB; have HO311 := n0_; have HB := n1_; clear n0_ n1_; (try clear hb); (try clear hb2); (try clear hk); (try clear hi); (try clear ho0))))
          (try simp only [Act.put, List.setIfInBounds_toArray, List.set_cons_zero, List.set_cons_succ])
          go_cut [76] (fun v76 wc => ∃ (kq : Nat) (x76_12 : Bool), v76 = .bool x76_12 ∧ Aside0 (letterlocklaw1_NameFolds.j1 kq l0 t308 x76_12 = some r) ∧ Aside0 (kq ≤ kj3) ∧ Aside0 (Kd.R (Kd.int .i32) 21 wc w.heap.size (fun _ => True) v310 t308) ∧ Aside0 (Below w.heap.size w wc))
          case first =>
            have H := HC13.out
            clear HC13
            by_cases c17 : t309 = 0
            · rw [if_pos c17] at H
              have c17b0 : (t309 == 0) = true := beq_iff_eq.mpr c17
              have c17b1 : (t309 != 0) = false := bne_eq_false_iff_eq.mpr c17
              clear c17
              (first | rw [c17b0] | (simp only [i64_w, i32_w]; rw [c17b0]) | skip)
              by_cases c18 : (t307.size : Int) = (t305.size : Int)
              · rw [if_pos c18] at H
                have c18b0 : ((t307.size : Int) == (t305.size : Int)) = true := beq_iff_eq.mpr c18
                have c18b1 : ((t307.size : Int) != (t305.size : Int)) = false := bne_eq_false_iff_eq.mpr c18
                have c18b2 : (t307.size == t305.size) = true := by first | simpa using c18 | (simp at c18 ⊢; omega)
                clear c18
                by_cases c19 : (t308.length : Int) = (l0.length : Int)
                · rw [if_pos c19] at H
                  have c19b0 : ((t308.length : Int) == (l0.length : Int)) = true := beq_iff_eq.mpr c19
                  have c19b1 : ((t308.length : Int) != (l0.length : Int)) = false := bne_eq_false_iff_eq.mpr c19
                  have c19b2 : (t308.length == l0.length) = true := by first | simpa using c19 | (simp at c19 ⊢; omega)
                  clear c19
                  replace H := Option.bind_eq_some_iff.mp H
                  obtain ⟨t312, A200, H⟩ := H
                  replace H : (if (t312.size : Int) = (a1.size : Int) then (if t305.size + a1.size ≤ 9223372036854775807 then ((name_Fold.f (t305 ++ a1)).bind fun t313 => ((name_Fold.f a1).bind fun t314 => (if t307.size + t314.size ≤ 9223372036854775807 then (letterlocklaw1_NameFolds.j1 kj3 l0 t308 (t313.toList != (t307 ++ t314).toList)) else (none)))) else (none)) else (letterlocklaw1_NameFolds.j1 kj3 l0 t308 true)) = some r := H
                  have A20 := Aside0.mk A200
                  clear A200
                  by_cases c21 : (t312.size : Int) = (a1.size : Int)
                  · rw [if_pos c21] at H
                    have c21b0 : ((t312.size : Int) == (a1.size : Int)) = true := beq_iff_eq.mpr c21
                    have c21b1 : ((t312.size : Int) != (a1.size : Int)) = false := bne_eq_false_iff_eq.mpr c21
                    have c21b2 : (t312.size == a1.size) = true := by first | simpa using c21 | (simp at c21 ⊢; omega)
                    clear c21
                    by_cases c22 : t305.size + a1.size ≤ 9223372036854775807
                    · rw [if_pos c22] at H
                      have c22b0 := eq_true c22
                      have c22b1 : decide (t305.size + a1.size ≤ 9223372036854775807) = true := decide_eq_true c22
                      try have c22b2 : (9223372036854775807 < t305.size + a1.size) = False := eq_false (Nat.not_lt.2 c22)
                      replace H := Option.bind_eq_some_iff.mp H
                      obtain ⟨t313, A230, H⟩ := H
                      replace H : ((name_Fold.f a1).bind fun t314 => (if t307.size + t314.size ≤ 9223372036854775807 then (letterlocklaw1_NameFolds.j1 kj3 l0 t308 (t313.toList != (t307 ++ t314).toList)) else (none))) = some r := H
                      have A23 := Aside0.mk A230
                      clear A230
                      replace H := Option.bind_eq_some_iff.mp H
                      obtain ⟨t314, A240, H⟩ := H
                      replace H : (if t307.size + t314.size ≤ 9223372036854775807 then (letterlocklaw1_NameFolds.j1 kj3 l0 t308 (t313.toList != (t307 ++ t314).toList)) else (none)) = some r := H
                      have A24 := Aside0.mk A240
                      clear A240
                      obtain rfl : t314 = t312 := Option.some.inj (A24.out.symm.trans A20.out)
                      by_cases c25 : t307.size + t314.size ≤ 9223372036854775807
                      · rw [if_pos c25] at H
                        have c25b0 := eq_true c25
                        have c25b1 : decide (t307.size + t314.size ≤ 9223372036854775807) = true := decide_eq_true c25
                        try have c25b2 : (9223372036854775807 < t307.size + t314.size) = False := eq_false (Nat.not_lt.2 c25)
                        have H' := Aside0.mk H
                        clear H
                        obtain ⟨Ao26, co26, eo26⟩ := Kd.R_slice HO311.out
                        subst eo26
                        go_wp2_with (first | (go_at_call 27; (with_reducible refine (name_Fold.calls a1 t312 _ ?side1 A20.out).mono ?_); (case side1 => exact ⟨Tabs.below HTB.out (by repeat (first | (with_reducible first | exact HB.out | apply below_alloc | apply pw_below_drewN | apply below_drew1) | exact HB.out))⟩); rintro e w27 ⟨rfl, hb⟩; have n0_ := Aside0.mk (Kd.R_below (by (with_reducible repeat (first | apply Kd.R_alloc | apply Kd.R_drewN | apply Kd.R_drew)); exact HO311.out) hb); have n1_ := Aside0.mk (below_step (by repeat (first | (with_reducible first | exact HB.out | apply below_alloc | apply pw_below_drewN | apply below_drew1) | exact HB.out)) hb); clear HO311; clear HB; have HO311 := n0_; have HB := n1_; clear n0_ n1_; (try clear hb); (try clear hb2); (try clear hk); (try clear hi)) | (go_at_call 27; (with_reducible refine (name_Fold.calls (t305 ++ a1) t313 _ ?side1 A23.out).mono ?_); (case side1 => exact ⟨Tabs.below HTB.out (by repeat (first | (with_reducible first | exact HB.out | apply below_alloc | apply pw_below_drewN | apply below_drew1) | exact HB.out))⟩); rintro e w28 ⟨rfl, hb⟩; have n0_ := Aside0.mk (Kd.R_below (by (with_reducible repeat (first | apply Kd.R_alloc | apply Kd.R_drewN | apply Kd.R_drew)); exact HO311.out) hb); have n1_ := Aside0.mk (below_step (by repeat (first | (with_reducible first | exact HB.out | apply below_alloc | apply pw_below_drewN | apply below_drew1) | exact HB.out)) hb); clear HO311; clear HB; have HO311 := n0_; have HB := n1_; clear n0_ n1_; (try clear hb); (try clear hb2); (try clear hk); (try clear hi)) | (go_at_call 27; (with_reducible refine (name_Fold.calls a1 t314 _ ?side1 A24.out).mono ?_); (case side1 => exact ⟨Tabs.below HTB.out (by repeat (first | (with_reducible first | exact HB.out | apply below_alloc | apply pw_below_drewN | apply below_drew1) | exact HB.out))⟩); rintro e w29 ⟨rfl, hb⟩; have n0_ := Aside0.mk (Kd.R_below (by (with_reducible repeat (first | apply Kd.R_alloc | apply Kd.R_drewN | apply Kd.R_drew)); exact HO311.out) hb); have n1_ := Aside0.mk (below_step (by repeat (first | (with_reducible first | exact HB.out | apply below_alloc | apply pw_below_drewN | apply below_drew1) | exact HB.out)) hb); clear HO311; clear HB; have HO311 := n0_; have HB := n1_; clear n0_ n1_; (try clear hb); (try clear hb2); (try clear hk); (try clear hi)))
                        repeat (go_quiet (first | (go_at_call 27; (with_reducible refine (name_Fold.calls a1 t312 _ ?side1 A20.out).mono ?_); (case side1 => exact ⟨Tabs.below HTB.out (by repeat (first | (with_reducible first | exact HB.out | apply below_alloc | apply pw_below_drewN | apply below_drew1) | exact HB.out))⟩); rintro e w27 ⟨rfl, hb⟩; have n0_ := Aside0.mk (Kd.R_below (by (with_reducible repeat (first | apply Kd.R_alloc | apply Kd.R_drewN | apply Kd.R_drew)); exact HO311.out) hb); have n1_ := Aside0.mk (below_step (by repeat (first | (with_reducible first | exact HB.out | apply below_alloc | apply pw_below_drewN | apply below_drew1) | exact HB.out)) hb); clear HO311; clear HB; have HO311 := n0_; have HB := n1_; clear n0_ n1_; (try clear hb); (try clear hb2); (try clear hk); (try clear hi)) | (go_at_call 27; (with_reducible refine (name_Fold.calls (t305 ++ a1) t313 _ ?side1 A23.out).mono ?_); (case side1 => exact ⟨Tabs.below HTB.out (by repeat (first | (with_reducible first | exact HB.out | apply below_alloc | apply pw_below_drewN | apply below_drew1) | exact HB.out))⟩); rintro e w28 ⟨rfl, hb⟩; have n0_ := Aside0.mk (Kd.R_below (by (with_reducible repeat (first | apply Kd.R_alloc | apply Kd.R_drewN | apply Kd.R_drew)); exact HO311.out) hb); have n1_ := Aside0.mk (below_step (by repeat (first | (with_reducible first | exact HB.out | apply below_alloc | apply pw_below_drewN | apply below_drew1) | exact HB.out)) hb); clear HO311; clear HB; have HO311 := n0_; have HB := n1_; clear n0_ n1_; (try clear hb); (try clear hb2); (try clear hk); (try clear hi)) | (go_at_call 27; (with_reducible refine (name_Fold.calls a1 t314 _ ?side1 A24.out).mono ?_); (case side1 => exact ⟨Tabs.below HTB.out (by repeat (first | (with_reducible first | exact HB.out | apply below_alloc | apply pw_below_drewN | apply below_drew1) | exact HB.out))⟩); rintro e w29 ⟨rfl, hb⟩; have n0_ := Aside0.mk (Kd.R_below (by (with_reducible repeat (first | apply Kd.R_alloc | apply Kd.R_drewN | apply Kd.R_drew)); exact HO311.out) hb); have n1_ := Aside0.mk (below_step (by repeat (first | (with_reducible first | exact HB.out | apply below_alloc | apply pw_below_drewN | apply below_drew1) | exact HB.out)) hb); clear HO311; clear HB; have HO311 := n0_; have HB := n1_; clear n0_ n1_; (try clear hb); (try clear hb2); (try clear hk); (try clear hi))); try go_wp2_with (first | (go_at_call 27; (with_reducible refine (name_Fold.calls a1 t312 _ ?side1 A20.out).mono ?_); (case side1 => exact ⟨Tabs.below HTB.out (by repeat (first | (with_reducible first | exact HB.out | apply below_alloc | apply pw_below_drewN | apply below_drew1) | exact HB.out))⟩); rintro e w27 ⟨rfl, hb⟩; have n0_ := Aside0.mk (Kd.R_below (by (with_reducible repeat (first | apply Kd.R_alloc | apply Kd.R_drewN | apply Kd.R_drew)); exact HO311.out) hb); have n1_ := Aside0.mk (below_step (by repeat (first | (with_reducible first | exact HB.out | apply below_alloc | apply pw_below_drewN | apply below_drew1) | exact HB.out)) hb); clear HO311; clear HB; have HO311 := n0_; have HB := n1_; clear n0_ n1_; (try clear hb); (try clear hb2); (try clear hk); (try clear hi)) | (go_at_call 27; (with_reducible refine (name_Fold.calls (t305 ++ a1) t313 _ ?side1 A23.out).mono ?_); (case side1 => exact ⟨Tabs.below HTB.out (by repeat (first | (with_reducible first | exact HB.out | apply below_alloc | apply pw_below_drewN | apply below_drew1) | exact HB.out))⟩); rintro e w28 ⟨rfl, hb⟩; have n0_ := Aside0.mk (Kd.R_below (by (with_reducible repeat (first | apply Kd.R_alloc | apply Kd.R_drewN | apply Kd.R_drew)); exact HO311.out) hb); have n1_ := Aside0.mk (below_step (by repeat (first | (with_reducible first | exact HB.out | apply below_alloc | apply pw_below_drewN | apply below_drew1) | exact HB.out)) hb); clear HO311; clear HB; have HO311 := n0_; have HB := n1_; clear n0_ n1_; (try clear hb); (try clear hb2); (try clear hk); (try clear hi)) | (go_at_call 27; (with_reducible refine (name_Fold.calls a1 t314 _ ?side1 A24.out).mono ?_); (case side1 => exact ⟨Tabs.below HTB.out (by repeat (first | (with_reducible first | exact HB.out | apply below_alloc | apply pw_below_drewN | apply below_drew1) | exact HB.out))⟩); rintro e w29 ⟨rfl, hb⟩; have n0_ := Aside0.mk (Kd.R_below (by (with_reducible repeat (first | apply Kd.R_alloc | apply Kd.R_drewN | apply Kd.R_drew)); exact HO311.out) hb); have n1_ := Aside0.mk (below_step (by repeat (first | (with_reducible first | exact HB.out | apply below_alloc | apply pw_below_drewN | apply below_drew1) | exact HB.out)) hb); clear HO311; clear HB; have HO311 := n0_; have HB := n1_; clear n0_ n1_; (try clear hb); (try clear hb2); (try clear hk); (try clear hi))))
                        go_meet
                        case rel => exact ⟨_, ((t313.toList != (t307 ++ t314).toList)), (by first | rfl | (simp; done) | (simp [*]; done)), H', ⟨by have := HJ3.out; first | omega | exact Nat.le_refl _⟩, ⟨by (with_reducible repeat (first | apply Kd.R_alloc | apply Kd.R_drewN | apply Kd.R_drew)); exact HO311.out⟩, ⟨by repeat (first | (with_reducible first | exact HB.out | apply below_alloc | apply pw_below_drewN | apply below_drew1) | exact HB.out)⟩⟩
                      · rw [if_neg c25] at H
                        exact absurd H (by simp)
                    · rw [if_neg c22] at H
                      exact absurd H (by simp)
                  · rw [if_neg c21] at H
                    have c21b0 : ((t312.size : Int) == (a1.size : Int)) = false := beq_eq_false_iff_ne.mpr c21
                    have c21b1 : ((t312.size : Int) != (a1.size : Int)) = true := bne_iff_ne.mpr c21
                    have c21b2 : (t312.size == a1.size) = false := by first | simpa using c21 | (simp at c21 ⊢; omega)
                    have H' := Aside0.mk H
                    clear H
                    obtain ⟨Ao30, co30, eo30⟩ := Kd.R_slice HO311.out
                    subst eo30
                    go_wp2_with (first | (go_at_call 27; (with_reducible refine (name_Fold.calls a1 t312 _ ?side1 A20.out).mono ?_); (case side1 => exact ⟨Tabs.below HTB.out (by repeat (first | (with_reducible first | exact HB.out | apply below_alloc | apply pw_below_drewN | apply below_drew1) | exact HB.out))⟩); rintro e w31 ⟨rfl, hb⟩; have n0_ := Aside0.mk (Kd.R_below (by (with_reducible repeat (first | apply Kd.R_alloc | apply Kd.R_drewN | apply Kd.R_drew)); exact HO311.out) hb); have n1_ := Aside0.mk (below_step (by repeat (first | (with_reducible first | exact HB.out | apply below_alloc | apply pw_below_drewN | apply below_drew1) | exact HB.out)) hb); clear HO311; clear HB; have HO311 := n0_; have HB := n1_; clear n0_ n1_; (try clear hb); (try clear hb2); (try clear hk); (try clear hi)))
                    repeat (go_quiet (first | (go_at_call 27; (with_reducible refine (name_Fold.calls a1 t312 _ ?side1 A20.out).mono ?_); (case side1 => exact ⟨Tabs.below HTB.out (by repeat (first | (with_reducible first | exact HB.out | apply below_alloc | apply pw_below_drewN | apply below_drew1) | exact HB.out))⟩); rintro e w31 ⟨rfl, hb⟩; have n0_ := Aside0.mk (Kd.R_below (by (with_reducible repeat (first | apply Kd.R_alloc | apply Kd.R_drewN | apply Kd.R_drew)); exact HO311.out) hb); have n1_ := Aside0.mk (below_step (by repeat (first | (with_reducible first | exact HB.out | apply below_alloc | apply pw_below_drewN | apply below_drew1) | exact HB.out)) hb); clear HO311; clear HB; have HO311 := n0_; have HB := n1_; clear n0_ n1_; (try clear hb); (try clear hb2); (try clear hk); (try clear hi))); try go_wp2_with (first | (go_at_call 27; (with_reducible refine (name_Fold.calls a1 t312 _ ?side1 A20.out).mono ?_); (case side1 => exact ⟨Tabs.below HTB.out (by repeat (first | (with_reducible first | exact HB.out | apply below_alloc | apply pw_below_drewN | apply below_drew1) | exact HB.out))⟩); rintro e w31 ⟨rfl, hb⟩; have n0_ := Aside0.mk (Kd.R_below (by (with_reducible repeat (first | apply Kd.R_alloc | apply Kd.R_drewN | apply Kd.R_drew)); exact HO311.out) hb); have n1_ := Aside0.mk (below_step (by repeat (first | (with_reducible first | exact HB.out | apply below_alloc | apply pw_below_drewN | apply below_drew1) | exact HB.out)) hb); clear HO311; clear HB; have HO311 := n0_; have HB := n1_; clear n0_ n1_; (try clear hb); (try clear hb2); (try clear hk); (try clear hi))))
                    go_meet
                    case rel => exact ⟨_, (true), (by first | rfl | (simp; done) | (simp [*]; done)), H', ⟨by have := HJ3.out; first | omega | exact Nat.le_refl _⟩, ⟨by (with_reducible repeat (first | apply Kd.R_alloc | apply Kd.R_drewN | apply Kd.R_drew)); exact HO311.out⟩, ⟨by repeat (first | (with_reducible first | exact HB.out | apply below_alloc | apply pw_below_drewN | apply below_drew1) | exact HB.out)⟩⟩
                · rw [if_neg c19] at H
                  have c19b0 : ((t308.length : Int) == (l0.length : Int)) = false := beq_eq_false_iff_ne.mpr c19
                  have c19b1 : ((t308.length : Int) != (l0.length : Int)) = true := bne_iff_ne.mpr c19
                  have c19b2 : (t308.length == l0.length) = false := by first | simpa using c19 | (simp at c19 ⊢; omega)
                  have H' := Aside0.mk H
                  clear H
                  obtain ⟨Ao32, co32, eo32⟩ := Kd.R_slice HO311.out
                  subst eo32
                  go_wp2
                  repeat (go_quiet (fail); try go_wp2)
                  go_meet
                  case rel => exact ⟨_, (true), (by first | rfl | (simp; done) | (simp [*]; done)), H', ⟨by have := HJ3.out; first | omega | exact Nat.le_refl _⟩, ⟨by (with_reducible repeat (first | apply Kd.R_alloc | apply Kd.R_drewN | apply Kd.R_drew)); exact HO311.out⟩, ⟨by repeat (first | (with_reducible first | exact HB.out | apply below_alloc | apply pw_below_drewN | apply below_drew1) | exact HB.out)⟩⟩
              · rw [if_neg c18] at H
                have c18b0 : ((t307.size : Int) == (t305.size : Int)) = false := beq_eq_false_iff_ne.mpr c18
                have c18b1 : ((t307.size : Int) != (t305.size : Int)) = true := bne_iff_ne.mpr c18
                have c18b2 : (t307.size == t305.size) = false := by first | simpa using c18 | (simp at c18 ⊢; omega)
                have H' := Aside0.mk H
                clear H
                go_wp2
                repeat (go_quiet (fail); try go_wp2)
                go_meet
                case rel => exact ⟨_, (true), (by first | rfl | (simp; done) | (simp [*]; done)), H', ⟨by have := HJ3.out; first | omega | exact Nat.le_refl _⟩, ⟨by (with_reducible repeat (first | apply Kd.R_alloc | apply Kd.R_drewN | apply Kd.R_drew)); exact HO311.out⟩, ⟨by repeat (first | (with_reducible first | exact HB.out | apply below_alloc | apply pw_below_drewN | apply below_drew1) | exact HB.out)⟩⟩
            · rw [if_neg c17] at H
              have c17b0 : (t309 == 0) = false := beq_eq_false_iff_ne.mpr c17
              have c17b1 : (t309 != 0) = true := bne_iff_ne.mpr c17
              (first | rw [c17b0] | (simp only [i64_w, i32_w]; rw [c17b0]) | skip)
              have H' := Aside0.mk H
              clear H
              go_wp2
              repeat (go_quiet (fail); try go_wp2)
              go_meet
              case rel => exact ⟨_, (true), (by first | rfl | (simp; done) | (simp [*]; done)), H', ⟨by have := HJ3.out; first | omega | exact Nat.le_refl _⟩, ⟨by (with_reducible repeat (first | apply Kd.R_alloc | apply Kd.R_drewN | apply Kd.R_drew)); exact HO311.out⟩, ⟨by repeat (first | (with_reducible first | exact HB.out | apply below_alloc | apply pw_below_drewN | apply below_drew1) | exact HB.out)⟩⟩
          case rest =>
            clear HC13
            try clear c1
            try clear c2
            try clear p2
            try clear c6
            try clear c7
            try clear c7b0
            try clear c7b1
            try clear c8
            try clear c10
            try clear c10b0
            try clear c10b1
            try clear c17
            try clear c17b0
            try clear c17b1
            try clear c18
            try clear c18b0
            try clear c18b1
            try clear c18b2
            try clear c19
            try clear c19b0
            try clear c19b1
            try clear c19b2
            try clear c21
            try clear c21b0
            try clear c21b1
            try clear c21b2
            try clear c22
            try clear c22b0
            try clear c22b1
            try clear c22b2
            try clear c25
            try clear c25b0
            try clear c25b1
            try clear c25b2
            try clear p2
            obtain ⟨kq, x76_12, rfl, HA, HJ12, HO_9, HB⟩ := hcut
            cases kq with
            | zero => exact absurd HA.out (by simp [letterlocklaw1_NameFolds.j1])
            | succ kj12 =>
              have H := HA.out
              clear HA
              simp only [letterlocklaw1_NameFolds.j1] at H
              by_cases c33 : x76_12 = true
              · subst c33
                have H1 : (some false) = some r := by rw [if_pos rfl] at H; exact H
                clear H
                have H := H1
                clear H1
                obtain rfl := Option.some.inj H
                go_wp2
                repeat (go_quiet (fail); try go_wp2)
                go_ret
                exact ⟨by first | rfl | (simp [errW_none, errW_some] <;> rfl) | (simp [*, errW_none, errW_some] <;> rfl), by repeat (first | (with_reducible first | exact HB.out | apply below_alloc | apply pw_below_drewN | apply below_drew1) | exact HB.out)⟩
              · replace c33 := Bool.eq_false_iff.mpr c33
                subst c33
                have H1 : (letterlocklaw1_NameFolds.l0 kj12 l0 t308 0) = some r := by rw [if_neg (show ¬ (false = true) by decide)] at H; exact H
                clear H
                have H := H1
                clear H1
                have H' := Aside0.mk H
                clear H
                go_wp2
                repeat (go_quiet (fail); try go_wp2)
                go_loopg [11] kj12 (fun kq v11 w' => ∃ (x11_3 : Int), v11 = .int .i64 x11_3 ∧ Aside0 (letterlocklaw1_NameFolds.l0 kq l0 t308 x11_3 = some r) ∧ Aside0 (kq ≤ kj12) ∧ Aside0 (Kd.R (Kd.int .i32) 21 w' w.heap.size (fun _ => True) v310 t308) ∧ Aside0 (Below w.heap.size w w'))
                case atStart => exact ⟨(0), (by first | rfl | (simp; done) | (simp [*]; done)), H', ⟨Nat.le_refl _⟩, ⟨by (with_reducible repeat (first | apply Kd.R_alloc | apply Kd.R_drewN | apply Kd.R_drew)); exact HO_9.out⟩, ⟨by repeat (first | (with_reducible first | exact HB.out | apply below_alloc | apply pw_below_drewN | apply below_drew1) | exact HB.out)⟩⟩
                case round =>
                  clear H'
                  try clear c1
                  try clear c2
                  try clear p2
                  try clear c3
                  try clear c6
                  try clear c7
                  try clear c7b0
                  try clear c7b1
                  try clear c8
                  try clear c10
                  try clear c10b0
                  try clear c10b1
                  try clear c17
                  try clear c17b0
                  try clear c17b1
                  try clear c18
                  try clear c18b0
                  try clear c18b1
                  try clear c18b2
                  try clear c19
                  try clear c19b0
                  try clear c19b1
                  try clear c19b2
                  try clear c21
                  try clear c21b0
                  try clear c21b1
                  try clear c21b2
                  try clear c22
                  try clear c22b0
                  try clear c22b1
                  try clear c22b2
                  try clear c25
                  try clear c25b0
                  try clear c25b1
                  try clear c25b2
                  try clear c33
                  try clear p2
                  obtain ⟨x11_3, rfl, HA, HK3, HO_9, HB⟩ := hrel
                  cases gk with
                  | zero => exact absurd HA.out (by simp [letterlocklaw1_NameFolds.l0])
                  | succ k3 =>
                    have H := HA.out
                    clear HA
                    simp only [letterlocklaw1_NameFolds.l0] at H
                    by_cases c34 : x11_3 < (l0.length : Int)
                    · rw [if_pos c34] at H
                      have c34b0 : decide (x11_3 < (l0.length : Int)) = true := decide_eq_true c34
                      clear c34
                      by_cases c35 : 0 ≤ x11_3
                      · rw [if_pos c35] at H
                        have c35b0 : decide (0 ≤ x11_3) = true := decide_eq_true c35
                        clear c35
                        by_cases c36 : x11_3 < (t308.length : Int)
                        · rw [if_pos c36] at H
                          have c36b0 : decide (x11_3 < (t308.length : Int)) = true := decide_eq_true c36
                          clear c36
                          by_cases c37 : (rd t308 x11_3) = (rd l0 x11_3)
                          · rw [if_pos c37] at H
                            have c37b0 : ((rd t308 x11_3) == (rd l0 x11_3)) = true := beq_iff_eq.mpr c37
                            have c37b1 : ((rd t308 x11_3) != (rd l0 x11_3)) = false := bne_eq_false_iff_eq.mpr c37
                            clear c37
                            have H' := Aside0.mk H
                            clear H
                            obtain ⟨Ao38, co38, eo38⟩ := Kd.R_slice HO_9.out
                            subst eo38
                            have p315 : 0 ≤ (x11_3 : Int) := of_decide_eq_true (by first | (with_reducible assumption) | assumption)
                            have q315 : x11_3 < (t308.length : Int) := of_decide_eq_true (by first | (with_reducible assumption) | assumption)
                            obtain ⟨ad315, e315, hx315_0⟩ := Kd.at_int (Kd.R_reads' HO_9.out).2.2 x11_3 p315 q315
                            cases e315
                            replace p315 := eq_true p315
                            replace q315 := eq_true q315
                            have p316 : 0 ≤ (x11_3 : Int) := of_decide_eq_true (by first | (with_reducible assumption) | assumption)
                            have q316 : x11_3 < (l0.length : Int) := of_decide_eq_true (by first | (with_reducible assumption) | assumption)
                            obtain ⟨ad316, e316, hx316_0⟩ := Kd.at_int HR0.out x11_3 p316 q316
                            cases e316
                            replace hx316_0 := (HB.out.cell (World.block_lt_of_cell? w _ hx316_0)).trans hx316_0
                            replace p316 := eq_true p316
                            replace q316 := eq_true q316
                            go_wp2
                            repeat (go_quiet (fail); try go_wp2)
                            go_roundg k3
                            case measure => have := HJ3.out; have := HJ12.out; have := HK3.out; omega
                            case rel => exact ⟨(wrap64 (x11_3 + 1)), (by first | rfl | (simp; done) | (simp [*]; done)), H', ⟨by have := HJ3.out; have := HJ12.out; have := HK3.out; omega⟩, ⟨by (with_reducible repeat (first | apply Kd.R_alloc | apply Kd.R_drewN | apply Kd.R_drew)); exact HO_9.out⟩, ⟨by repeat (first | (with_reducible first | exact HB.out | apply below_alloc | apply pw_below_drewN | apply below_drew1) | exact HB.out)⟩⟩
                          · rw [if_neg c37] at H
                            have c37b0 : ((rd t308 x11_3) == (rd l0 x11_3)) = false := beq_eq_false_iff_ne.mpr c37
                            have c37b1 : ((rd t308 x11_3) != (rd l0 x11_3)) = true := bne_iff_ne.mpr c37
                            by_cases c39 : (rd t308 x11_3) = (wrap32 ((rd l0 x11_3) + 32))
                            · rw [if_pos c39] at H
                              have c39b0 : ((rd t308 x11_3) == (wrap32 ((rd l0 x11_3) + 32))) = true := beq_iff_eq.mpr c39
                              have c39b1 : ((rd t308 x11_3) != (wrap32 ((rd l0 x11_3) + 32))) = false := bne_eq_false_iff_eq.mpr c39
                              clear c39
                              have H' := Aside0.mk H
                              clear H
                              obtain ⟨Ao40, co40, eo40⟩ := Kd.R_slice HO_9.out
                              subst eo40
                              have p315 : 0 ≤ (x11_3 : Int) := of_decide_eq_true (by first | (with_reducible assumption) | assumption)
                              have q315 : x11_3 < (t308.length : Int) := of_decide_eq_true (by first | (with_reducible assumption) | assumption)
                              obtain ⟨ad315, e315, hx315_0⟩ := Kd.at_int (Kd.R_reads' HO_9.out).2.2 x11_3 p315 q315
                              cases e315
                              replace p315 := eq_true p315
                              replace q315 := eq_true q315
                              have p316 : 0 ≤ (x11_3 : Int) := of_decide_eq_true (by first | (with_reducible assumption) | assumption)
                              have q316 : x11_3 < (l0.length : Int) := of_decide_eq_true (by first | (with_reducible assumption) | assumption)
                              obtain ⟨ad316, e316, hx316_0⟩ := Kd.at_int HR0.out x11_3 p316 q316
                              cases e316
                              replace hx316_0 := (HB.out.cell (World.block_lt_of_cell? w _ hx316_0)).trans hx316_0
                              replace p316 := eq_true p316
                              replace q316 := eq_true q316
                              have p317 : 0 ≤ (x11_3 : Int) := of_decide_eq_true (by first | (with_reducible assumption) | assumption)
                              have q317 : x11_3 < (t308.length : Int) := of_decide_eq_true (by first | (with_reducible assumption) | assumption)
                              obtain ⟨ad317, e317, hx317_0⟩ := Kd.at_int (Kd.R_reads' HO_9.out).2.2 x11_3 p317 q317
                              obtain rfl : ad315 = ad317 := (by injection e317)
                              replace p317 := eq_true p317
                              replace q317 := eq_true q317
                              have p318 : 0 ≤ (x11_3 : Int) := of_decide_eq_true (by first | (with_reducible assumption) | assumption)
                              have q318 : x11_3 < (l0.length : Int) := of_decide_eq_true (by first | (with_reducible assumption) | assumption)
                              obtain ⟨ad318, e318, hx318_0⟩ := Kd.at_int HR0.out x11_3 p318 q318
                              obtain rfl : ad316 = ad318 := (by injection e318)
                              replace hx318_0 := (HB.out.cell (World.block_lt_of_cell? w _ hx318_0)).trans hx318_0
                              replace p318 := eq_true p318
                              replace q318 := eq_true q318
                              go_wp2
                              repeat (go_quiet (fail); try go_wp2)
                              go_roundg k3
                              case measure => have := HJ3.out; have := HJ12.out; have := HK3.out; omega
                              case rel => exact ⟨(wrap64 (x11_3 + 1)), (by first | rfl | (simp; done) | (simp [*]; done)), H', ⟨by have := HJ3.out; have := HJ12.out; have := HK3.out; omega⟩, ⟨by (with_reducible repeat (first | apply Kd.R_alloc | apply Kd.R_drewN | apply Kd.R_drew)); exact HO_9.out⟩, ⟨by repeat (first | (with_reducible first | exact HB.out | apply below_alloc | apply pw_below_drewN | apply below_drew1) | exact HB.out)⟩⟩
                            · rw [if_neg c39] at H
                              have c39b0 : ((rd t308 x11_3) == (wrap32 ((rd l0 x11_3) + 32))) = false := beq_eq_false_iff_ne.mpr c39
                              have c39b1 : ((rd t308 x11_3) != (wrap32 ((rd l0 x11_3) + 32))) = true := bne_iff_ne.mpr c39
                              obtain rfl := Option.some.inj H
                              obtain ⟨Ao41, co41, eo41⟩ := Kd.R_slice HO_9.out
                              subst eo41
                              have p315 : 0 ≤ (x11_3 : Int) := of_decide_eq_true (by first | (with_reducible assumption) | assumption)
                              have q315 : x11_3 < (t308.length : Int) := of_decide_eq_true (by first | (with_reducible assumption) | assumption)
                              obtain ⟨ad315, e315, hx315_0⟩ := Kd.at_int (Kd.R_reads' HO_9.out).2.2 x11_3 p315 q315
                              cases e315
                              replace p315 := eq_true p315
                              replace q315 := eq_true q315
                              have p316 : 0 ≤ (x11_3 : Int) := of_decide_eq_true (by first | (with_reducible assumption) | assumption)
                              have q316 : x11_3 < (l0.length : Int) := of_decide_eq_true (by first | (with_reducible assumption) | assumption)
                              obtain ⟨ad316, e316, hx316_0⟩ := Kd.at_int HR0.out x11_3 p316 q316
                              cases e316
                              replace hx316_0 := (HB.out.cell (World.block_lt_of_cell? w _ hx316_0)).trans hx316_0
                              replace p316 := eq_true p316
                              replace q316 := eq_true q316
                              have p317 : 0 ≤ (x11_3 : Int) := of_decide_eq_true (by first | (with_reducible assumption) | assumption)
                              have q317 : x11_3 < (t308.length : Int) := of_decide_eq_true (by first | (with_reducible assumption) | assumption)
                              obtain ⟨ad317, e317, hx317_0⟩ := Kd.at_int (Kd.R_reads' HO_9.out).2.2 x11_3 p317 q317
                              obtain rfl : ad315 = ad317 := (by injection e317)
                              replace p317 := eq_true p317
                              replace q317 := eq_true q317
                              have p318 : 0 ≤ (x11_3 : Int) := of_decide_eq_true (by first | (with_reducible assumption) | assumption)
                              have q318 : x11_3 < (l0.length : Int) := of_decide_eq_true (by first | (with_reducible assumption) | assumption)
                              obtain ⟨ad318, e318, hx318_0⟩ := Kd.at_int HR0.out x11_3 p318 q318
                              obtain rfl : ad316 = ad318 := (by injection e318)
                              replace hx318_0 := (HB.out.cell (World.block_lt_of_cell? w _ hx318_0)).trans hx318_0
                              replace p318 := eq_true p318
                              replace q318 := eq_true q318
                              go_wp2
                              repeat (go_quiet (fail); try go_wp2)
                              go_ret
                              exact ⟨by first | rfl | (simp [errW_none, errW_some] <;> rfl) | (simp [*, errW_none, errW_some] <;> rfl), by repeat (first | (with_reducible first | exact HB.out | apply below_alloc | apply pw_below_drewN | apply below_drew1) | exact HB.out)⟩
                        · rw [if_neg c36] at H
                          exact absurd H (by simp)
                      · rw [if_neg c35] at H
                        exact absurd H (by simp)
                    · rw [if_neg c34] at H
                      have c34b0 : decide (x11_3 < (l0.length : Int)) = false := decide_eq_false c34
                      clear c34
                      obtain rfl := Option.some.inj H
                      go_wp2
                      repeat (go_quiet (fail); try go_wp2)
                      go_ret
                      exact ⟨by first | rfl | (simp [errW_none, errW_some] <;> rfl) | (simp [*, errW_none, errW_some] <;> rfl), by repeat (first | (with_reducible first | exact HB.out | apply below_alloc | apply pw_below_drewN | apply below_drew1) | exact HB.out)⟩
        · rw [if_neg c10] at H
          have c10b0 : (t306 == 0) = false := beq_eq_false_iff_ne.mpr c10
          have c10b1 : (t306 != 0) = true := bne_iff_ne.mpr c10
          obtain rfl := Option.some.inj H
          go_wp2_with (first | (go_at_call 18; (with_reducible refine (name_Make.calls _ _ l0 t305 t306 _ ?side1 ?side2 A9.out).mono ?_); (case side1 => repeat (first | exact (Kd.C_below HR0.out HB.out) | (with_reducible refine Kd.C_alloc ?_ _) | (with_reducible refine Kd.C_drewN ?_ _) | (with_reducible refine Kd.C_drew ?_))); (case side2 => exact HC0.out); rintro e w42 ⟨rfl, hb⟩; have n0_ := Aside0.mk (below_step (by repeat (first | (with_reducible first | exact HB.out | apply below_alloc | apply pw_below_drewN | apply below_drew1) | exact HB.out)) hb); clear HB; have HB := n0_; clear n0_; (try clear hb); (try clear hb2); (try clear hk); (try clear hi)))
          repeat (go_quiet (first | (go_at_call 18; (with_reducible refine (name_Make.calls _ _ l0 t305 t306 _ ?side1 ?side2 A9.out).mono ?_); (case side1 => repeat (first | exact (Kd.C_below HR0.out HB.out) | (with_reducible refine Kd.C_alloc ?_ _) | (with_reducible refine Kd.C_drewN ?_ _) | (with_reducible refine Kd.C_drew ?_))); (case side2 => exact HC0.out); rintro e w42 ⟨rfl, hb⟩; have n0_ := Aside0.mk (below_step (by repeat (first | (with_reducible first | exact HB.out | apply below_alloc | apply pw_below_drewN | apply below_drew1) | exact HB.out)) hb); clear HB; have HB := n0_; clear n0_; (try clear hb); (try clear hb2); (try clear hk); (try clear hi))); try go_wp2_with (first | (go_at_call 18; (with_reducible refine (name_Make.calls _ _ l0 t305 t306 _ ?side1 ?side2 A9.out).mono ?_); (case side1 => repeat (first | exact (Kd.C_below HR0.out HB.out) | (with_reducible refine Kd.C_alloc ?_ _) | (with_reducible refine Kd.C_drewN ?_ _) | (with_reducible refine Kd.C_drew ?_))); (case side2 => exact HC0.out); rintro e w42 ⟨rfl, hb⟩; have n0_ := Aside0.mk (below_step (by repeat (first | (with_reducible first | exact HB.out | apply below_alloc | apply pw_below_drewN | apply below_drew1) | exact HB.out)) hb); clear HB; have HB := n0_; clear n0_; (try clear hb); (try clear hb2); (try clear hk); (try clear hi))))
          go_ret
          exact ⟨by first | rfl | (simp [errW_none, errW_some] <;> rfl) | (simp [*, errW_none, errW_some] <;> rfl), by repeat (first | (with_reducible first | exact HB.out | apply below_alloc | apply pw_below_drewN | apply below_drew1) | exact HB.out)⟩

end Go.Proofs.YtngdpoghfacokaaDoor.PA
