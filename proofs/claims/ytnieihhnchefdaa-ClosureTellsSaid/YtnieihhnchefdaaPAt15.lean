-- printed by a program of this session (a copy of print.py that takes stubs) out of the translation; Lean checks it
import Derived.Test.YtnieihhnchefdaaPAt0
import Derived.Test.YtnieihhnchefdaaPAt14
namespace Go.Proofs.Ytnieihhnchefdaa.PA
open Go.RowKit Go.Proofs.YtnieihhnchefdaaW.PrintWords Go.Proofs.YtnieihhnchefdaaW.PrintLast Go.Proofs.YtnieihhnchefdaaW.PrintMore
attribute [local go_sem] max2_int min2_int max_two min_two max_three min_three max_four min_four   -- for this text's walks alone
set_option linter.unusedVariables false
set_option linter.unusedSimpArgs false

/-! ### letterlockref4_together: function 52 -/
mutual
def letterlockref4_together.j0 : Nat → List ByteArray → ByteArray → Bool → Option (Bool)
 | 0, _, _, _ => none
 | k + 1, x0, x1, x15 => if x15 = true then (some true) else (if 0 < (x1.size : Int) then (if (bt x1 0) = 97 then (some false) else ((letterlockref3_Parts.f k x1).bind fun bt601 => (letterlockref4_together.l0 k x0 bt601.1 0))) else (none))
def letterlockref4_together.l0 : Nat → List ByteArray → List ByteArray → Int → Option (Bool)
 | 0, _, _, _ => none
 | k + 1, x0, x5, x7 => if x7 < (x5.length : Int) then (if 0 ≤ x7 then ((letterlockref4_together.f k x0 (rdOf ByteArray.empty x5 x7)).bind fun t606 => (if t606 = true then (letterlockref4_together.l0 k x0 x5 (wrap64 (x7 + 1))) else (some false))) else (none)) else (some true)
def letterlockref4_together.f : Nat → List ByteArray → ByteArray → Option (Bool)
 | 0, _, _ => none
 | k + 1, l0, a1 => (letterlockref4_has.f k l0 a1).bind fun t600 => (if t600 = true then (letterlockref4_together.j0 k l0 a1 true) else (if 0 < (a1.size : Int) then (letterlockref4_together.j0 k l0 a1 ((bt a1 0) == 116)) else (none)))
end
theorem letterlockref4_together.mono_l : ∀ k, (∀ y0 y1, LeO (letterlockref4_together.f k y0 y1) (letterlockref4_together.f (k + 1) y0 y1)) ∧ (∀ y0 y1 y2, LeO (letterlockref4_together.j0 k y0 y1 y2) (letterlockref4_together.j0 (k + 1) y0 y1 y2)) ∧ (∀ y0 y1 y2, LeO (letterlockref4_together.l0 k y0 y1 y2) (letterlockref4_together.l0 (k + 1) y0 y1 y2))
 | 0 => ⟨fun _ _ r h => by simp [letterlockref4_together.f] at h, fun _ _ _ r h => by simp [letterlockref4_together.j0] at h, fun _ _ _ r h => by simp [letterlockref4_together.l0] at h⟩
 | k + 1 => by
  obtain ⟨ih0, ih1, ih2⟩ := letterlockref4_together.mono_l k
  refine ⟨?_, ?_, ?_⟩
  ·intro y0 y1
   unfold letterlockref4_together.f
   repeat' first
   | (with_reducible exact ih0 _ _)
   | (with_reducible exact ih1 _ _ _)
   | (with_reducible exact ih2 _ _ _)
   | (with_reducible exact letterlockref3_Parts.mono _ _)
   | (with_reducible exact letterlockref4_has.mono _ _ _)
   | (with_reducible exact LeO.refl _)
   | (with_reducible exact LeO.none _)
   | (with_reducible refine LeO.ite ?_ ?_)
   | (with_reducible refine LeO.bind ?_ (fun _ => ?_))
   | exact ih0 _ _
   | exact ih1 _ _ _
   | exact ih2 _ _ _
   | exact letterlockref3_Parts.mono _ _
   | exact letterlockref4_has.mono _ _ _
   | exact LeO.none _
   | refine LeO.ite ?_ ?_
   | refine LeO.bind ?_ (fun _ => ?_)
  ·intro y0 y1 y2
   unfold letterlockref4_together.j0
   repeat' first
   | (with_reducible exact ih0 _ _)
   | (with_reducible exact ih1 _ _ _)
   | (with_reducible exact ih2 _ _ _)
   | (with_reducible exact letterlockref3_Parts.mono _ _)
   | (with_reducible exact letterlockref4_has.mono _ _ _)
   | (with_reducible exact LeO.refl _)
   | (with_reducible exact LeO.none _)
   | (with_reducible refine LeO.ite ?_ ?_)
   | (with_reducible refine LeO.bind ?_ (fun _ => ?_))
   | exact ih0 _ _
   | exact ih1 _ _ _
   | exact ih2 _ _ _
   | exact letterlockref3_Parts.mono _ _
   | exact letterlockref4_has.mono _ _ _
   | exact LeO.none _
   | refine LeO.ite ?_ ?_
   | refine LeO.bind ?_ (fun _ => ?_)
  ·intro y0 y1 y2
   unfold letterlockref4_together.l0
   repeat' first
   | (with_reducible exact ih0 _ _)
   | (with_reducible exact ih1 _ _ _)
   | (with_reducible exact ih2 _ _ _)
   | (with_reducible exact letterlockref3_Parts.mono _ _)
   | (with_reducible exact letterlockref4_has.mono _ _ _)
   | (with_reducible exact LeO.refl _)
   | (with_reducible exact LeO.none _)
   | (with_reducible refine LeO.ite ?_ ?_)
   | (with_reducible refine LeO.bind ?_ (fun _ => ?_))
   | exact ih0 _ _
   | exact ih1 _ _ _
   | exact ih2 _ _ _
   | exact letterlockref3_Parts.mono _ _
   | exact letterlockref4_has.mono _ _ _
   | exact LeO.none _
   | refine LeO.ite ?_ ?_
   | refine LeO.bind ?_ (fun _ => ?_)
theorem letterlockref4_together.mono : ∀ a0 a1 k, LeO (letterlockref4_together.f k a0 a1) (letterlockref4_together.f (k + 1) a0 a1) := by
 intro a0 a1 k
 obtain ⟨ih0, ih1, ih2⟩ := letterlockref4_together.mono_l k
 exact ih0 a0 a1
set_option maxHeartbeats 8000000 in
set_option maxRecDepth 100000 in
theorem letterlockref4_together.calls (k : Nat) : ∀ (A0 : Option Addr) (c0 : Nat) (l0 : List ByteArray) (a1 : ByteArray) (r : Bool) (w : World) (hr0 : Kd.C Kd.string w A0 l0.length l0) (hc0 : l0.length ≤ c0) (h : letterlockref4_together.f k l0 a1 = some r),
  Calls Try.prog 52 #[.slice A0 l0.length c0, .string a1] w fun e w' => e = .returned (.bool r) ∧ Below w.heap.size w w' := by
 induction k using Nat.strongRecOn with
 | _ k ih =>
 intro A0 c0 l0 a1 r w hr0 hc0 h
 cases k with
 | zero => exact absurd h (by simp [letterlockref4_together.f])
 | succ k =>
 simp only [letterlockref4_together.f] at h
 have HR0 := Aside0.mk hr0
 have HC0 := Aside0.mk hc0
 clear hr0 hc0
 have HB := Aside0.mk (Below.refl w.heap.size w)
 have H : ((letterlockref4_has.f k l0 a1).bind fun t600 => (if t600 = true then (letterlockref4_together.j0 k l0 a1 true) else (if 0 < (a1.size : Int) then (letterlockref4_together.j0 k l0 a1 ((bt a1 0) == 116)) else (none)))) = some r := h
 clear h
 have HC3 := Aside0.mk H
 clear H
 go_enter Try.func52, Try.ntmps52
 go_upto_region 1 with (fail)
 go_cut [15] (fun v15 wc => ∃ (kq : Nat) (x15_2 : Bool), v15 = .bool x15_2 ∧ Aside0 (letterlockref4_together.j0 kq l0 a1 x15_2 = some r) ∧ Aside0 (kq ≤ k) ∧ Aside0 (Below w.heap.size w wc))
 case first =>
  have H := HC3.out
  clear HC3
  replace H := Option.bind_eq_some_iff.mp H
  obtain ⟨t600, A40, H⟩ := H
  replace H : (if t600 = true then (letterlockref4_together.j0 k l0 a1 true) else (if 0 < (a1.size : Int) then (letterlockref4_together.j0 k l0 a1 ((bt a1 0) == 116)) else (none))) = some r := H
  have A4 := Aside0.mk A40
  clear A40
  by_cases c5 : t600 = true
  ·subst c5
   have H1 : (letterlockref4_together.j0 k l0 a1 true) = some r := by rw [if_pos rfl] at H; exact H
   clear H
   have H := H1
   clear H1
   have H' := Aside0.mk H
   clear H
   go_wp2_with (first | ((with_reducible refine gate_callee (f := 74) rfl ?_); refine goesL_ (some 10) rfl rfl Try.func74 (by kernel_rfl) rfl #[.slice A0 l0.length c0, .string a1] rfl (by (try simp only [List.map_toArray, List.map_cons, List.map_nil]); first | done | rfl | (simp only [List.length_drop, List.length_take]; rfl)) ?_; (with_reducible refine (letterlockref4_has.calls k _ _ l0 a1 true _ ?side1 ?side2 A4.out).mono ?_); (case side1 => repeat (first | exact (Kd.C_below HR0.out HB.out) | (with_reducible refine Kd.C_alloc ?_ _) | (with_reducible refine Kd.C_drewN ?_ _) | (with_reducible refine Kd.C_drew ?_))); (case side2 => exact HC0.out); rintro e w' ⟨rfl, ⟨nd, rfl⟩⟩; refine ⟨_, rfl, ?_⟩))
   go_meet
   case rel => exact ⟨_, (true), (by first | rfl | (simp; done) | (simp [*]; done)), H', ⟨by first | omega | exact Nat.le_refl _⟩, ⟨by repeat (first | (with_reducible first | exact HB.out | apply below_alloc | apply pw_below_drewN | apply below_drew1) | exact HB.out)⟩⟩
  ·replace c5 := Bool.eq_false_iff.mpr c5
   subst c5
   have H1 : (if 0 < (a1.size : Int) then (letterlockref4_together.j0 k l0 a1 ((bt a1 0) == 116)) else (none)) = some r := by rw [if_neg (show ¬ (false = true) by decide)] at H; exact H
   clear H
   have H := H1
   clear H1
   by_cases c6 : 0 < (a1.size : Int)
   ·rw [if_pos c6] at H
    have c6b0 : decide (0 < (a1.size : Int)) = true := decide_eq_true c6
    have c6b1 : decide (0 < a1.size) = true := decide_eq_true (by omega)
    clear c6
    (first | rw [c6b0] | (simp only [i64_w, i32_w]; rw [c6b0]) | skip)
    have H' := Aside0.mk H
    clear H
    go_wp2_with (first | ((with_reducible refine gate_callee (f := 74) rfl ?_); refine goesL_ (some 10) rfl rfl Try.func74 (by kernel_rfl) rfl #[.slice A0 l0.length c0, .string a1] rfl (by (try simp only [List.map_toArray, List.map_cons, List.map_nil]); first | done | rfl | (simp only [List.length_drop, List.length_take]; rfl)) ?_; (with_reducible refine (letterlockref4_has.calls k _ _ l0 a1 false _ ?side1 ?side2 A4.out).mono ?_); (case side1 => repeat (first | exact (Kd.C_below HR0.out HB.out) | (with_reducible refine Kd.C_alloc ?_ _) | (with_reducible refine Kd.C_drewN ?_ _) | (with_reducible refine Kd.C_drew ?_))); (case side2 => exact HC0.out); rintro e w' ⟨rfl, ⟨nd, rfl⟩⟩; refine ⟨_, rfl, ?_⟩; have p7 : 0 ≤ (0 : Int) := (by omega); have q7 : 0 < a1.size := (by have : (0 : Int) < (a1.size : Int) := of_decide_eq_true (by first | (with_reducible assumption) | assumption); omega); have hx7 : ∀ h : 0 < a1.size, ((a1[0]'h).toNat : Int) = bt a1 0 := bt_at a1 0; clear p7; have qi7 : (0 < (a1.size : Int)) = True := eq_true (of_decide_eq_true (by first | (with_reducible assumption) | assumption)); replace q7 := eq_true q7))
    go_meet
    case rel => exact ⟨_, (((bt a1 0) == 116)), (by first | rfl | (simp; done) | (simp [*]; done)), H', ⟨by first | omega | exact Nat.le_refl _⟩, ⟨by repeat (first | (with_reducible first | exact HB.out | apply below_alloc | apply pw_below_drewN | apply below_drew1) | exact HB.out)⟩⟩
   ·rw [if_neg c6] at H
    exact absurd H (by simp)
 case rest =>
  clear HC3
  try clear p2
  try clear c5
  try clear c6
  try clear c6b0
  try clear c6b1
  try clear c7
  try clear p7
  try clear q7
  try clear hx7
  try clear qi7
  try clear p7
  try clear q7
  obtain ⟨kq, x15_2, rfl, HA, HJ2, HB⟩ := hcut
  cases kq with
  | zero => exact absurd HA.out (by simp [letterlockref4_together.j0])
  | succ kj2 =>
   have H := HA.out
   clear HA
   simp only [letterlockref4_together.j0] at H
   by_cases c8 : x15_2 = true
   ·subst c8
    have H1 : (some true) = some r := by rw [if_pos rfl] at H; exact H
    clear H
    have H := H1
    clear H1
    obtain rfl := Option.some.inj H
    go_wp2
    go_ret
    exact ⟨by first | rfl | (simp [errW_none, errW_some] <;> rfl) | (simp [*, errW_none, errW_some] <;> rfl), by repeat (first | (with_reducible first | exact HB.out | apply below_alloc | apply pw_below_drewN | apply below_drew1) | exact HB.out)⟩
   ·replace c8 := Bool.eq_false_iff.mpr c8
    subst c8
    have H1 : (if 0 < (a1.size : Int) then (if (bt a1 0) = 97 then (some false) else ((letterlockref3_Parts.f kj2 a1).bind fun bt601 => (letterlockref4_together.l0 kj2 l0 bt601.1 0))) else (none)) = some r := by rw [if_neg (show ¬ (false = true) by decide)] at H; exact H
    clear H
    have H := H1
    clear H1
    by_cases c9 : 0 < (a1.size : Int)
    ·rw [if_pos c9] at H
     have c9b0 : decide (0 < (a1.size : Int)) = true := decide_eq_true c9
     have c9b1 : decide (0 < a1.size) = true := decide_eq_true (by omega)
     clear c9
     by_cases c11 : (bt a1 0) = 97
     ·rw [if_pos c11] at H
      have c11b0 : ((bt a1 0) == 97) = true := beq_iff_eq.mpr c11
      have c11b1 : ((bt a1 0) != 97) = false := bne_eq_false_iff_eq.mpr c11
      clear c11
      obtain rfl := Option.some.inj H
      have p10 : 0 ≤ (0 : Int) := (by omega)
      have q10 : 0 < a1.size := (by have : (0 : Int) < (a1.size : Int) := of_decide_eq_true (by first | (with_reducible assumption) | assumption); omega)
      have hx10 : ∀ h : 0 < a1.size, ((a1[0]'h).toNat : Int) = bt a1 0 := bt_at a1 0
      clear p10
      have qi10 : (0 < (a1.size : Int)) = True := eq_true (of_decide_eq_true (by first | (with_reducible assumption) | assumption))
      replace q10 := eq_true q10
      go_wp2
      go_ret
      exact ⟨by first | rfl | (simp [errW_none, errW_some] <;> rfl) | (simp [*, errW_none, errW_some] <;> rfl), by repeat (first | (with_reducible first | exact HB.out | apply below_alloc | apply pw_below_drewN | apply below_drew1) | exact HB.out)⟩
     ·rw [if_neg c11] at H
      have c11b0 : ((bt a1 0) == 97) = false := beq_eq_false_iff_ne.mpr c11
      have c11b1 : ((bt a1 0) != 97) = true := bne_iff_ne.mpr c11
      replace H := Option.bind_eq_some_iff.mp H
      obtain ⟨⟨t601, t602⟩, A120, H⟩ := H
      replace H : (letterlockref4_together.l0 kj2 l0 t601 0) = some r := H
      have A12 := Aside0.mk A120
      clear A120
      have H' := Aside0.mk H
      clear H
      have p10 : 0 ≤ (0 : Int) := (by omega)
      have q10 : 0 < a1.size := (by have : (0 : Int) < (a1.size : Int) := of_decide_eq_true (by first | (with_reducible assumption) | assumption); omega)
      have hx10 : ∀ h : 0 < a1.size, ((a1[0]'h).toNat : Int) = bt a1 0 := bt_at a1 0
      clear p10
      have qi10 : (0 < (a1.size : Int)) = True := eq_true (of_decide_eq_true (by first | (with_reducible assumption) | assumption))
      replace q10 := eq_true q10
      go_wp2_with (first | ((with_reducible refine gate_callee (f := 76) rfl ?_); refine goesL_ (some 21) rfl rfl Try.func76 (by kernel_rfl) rfl #[.string a1] rfl (by (try simp only [List.map_toArray, List.map_cons, List.map_nil]); first | done | rfl | (simp only [List.length_drop, List.length_take]; rfl)) ?_; (with_reducible refine (letterlockref3_Parts.calls kj2 a1 t601 t602 _ A12.out).mono ?_); rintro e w13 ⟨v603, rfl, ho0, hb⟩; refine ⟨_, rfl, ?_⟩; have n0_ := Aside0.mk (Kd.R_lower ho0 (below_size (by repeat (first | (with_reducible first | exact HB.out | apply below_alloc | apply pw_below_drewN | apply below_drew1) | exact HB.out)))); have n1_ := Aside0.mk (below_step (by repeat (first | (with_reducible first | exact HB.out | apply below_alloc | apply pw_below_drewN | apply below_drew1) | exact HB.out)) hb); clear HB; have HO604 := n0_; have HB := n1_; clear n0_ n1_; (try clear hb); (try clear hb2); (try clear hk); (try clear hi); (try clear ho0)))
      go_loopg [7] kj2 (fun kq v7 w' => ∃ (x7_2 : Int), v7 = .int .i64 x7_2 ∧ Aside0 (letterlockref4_together.l0 kq l0 t601 x7_2 = some r) ∧ Aside0 (kq ≤ kj2) ∧ Aside0 (Kd.R Kd.string 9 w' w.heap.size (fun _ => True) v603 t601) ∧ Aside0 (Below w.heap.size w w'))
      case atStart => exact ⟨(0), (by first | rfl | (simp; done) | (simp [*]; done)), H', ⟨Nat.le_refl _⟩, ⟨by (with_reducible repeat (first | apply Kd.R_alloc | apply Kd.R_drewN | apply Kd.R_drew)); exact HO604.out⟩, ⟨by repeat (first | (with_reducible first | exact HB.out | apply below_alloc | apply pw_below_drewN | apply below_drew1) | exact HB.out)⟩⟩
      case round =>
       clear H'
       try clear c1
       try clear p1
       try clear q1
       try clear hx1
       try clear qi1
       try clear p2
       try clear c5
       try clear c6
       try clear c6b0
       try clear c6b1
       try clear c7
       try clear p7
       try clear q7
       try clear hx7
       try clear qi7
       try clear c8
       try clear c9
       try clear c9b0
       try clear c9b1
       try clear p10
       try clear q10
       try clear hx10
       try clear qi10
       try clear c11
       try clear c11b0
       try clear c11b1
       try clear p10
       try clear p2
       try clear p7
       try clear q10
       try clear q7
       obtain ⟨x7_2, rfl, HA, HK2, HO_5, HB⟩ := hrel
       cases gk with
       | zero => exact absurd HA.out (by simp [letterlockref4_together.l0])
       | succ k2 =>
        have H := HA.out
        clear HA
        simp only [letterlockref4_together.l0] at H
        by_cases c14 : x7_2 < (t601.length : Int)
        ·rw [if_pos c14] at H
         have c14b0 : decide (x7_2 < (t601.length : Int)) = true := decide_eq_true c14
         clear c14
         by_cases c15 : 0 ≤ x7_2
         ·rw [if_pos c15] at H
          have c15b0 : decide (0 ≤ x7_2) = true := decide_eq_true c15
          clear c15
          replace H := Option.bind_eq_some_iff.mp H
          obtain ⟨t606, A160, H⟩ := H
          replace H : (if t606 = true then (letterlockref4_together.l0 k2 l0 t601 (wrap64 (x7_2 + 1))) else (some false)) = some r := H
          have A16 := Aside0.mk A160
          clear A160
          by_cases c17 : t606 = true
          ·subst c17
           have H1 : (letterlockref4_together.l0 k2 l0 t601 (wrap64 (x7_2 + 1))) = some r := by rw [if_pos rfl] at H; exact H
           clear H
           have H := H1
           clear H1
           have H' := Aside0.mk H
           clear H
           obtain ⟨Ao18, co18, eo18⟩ := Kd.R_slice HO_5.out
           subst eo18
           have p605 : 0 ≤ (x7_2 : Int) := of_decide_eq_true (by first | (with_reducible assumption) | assumption)
           have q605 : x7_2 < (t601.length : Int) := of_decide_eq_true (by first | (with_reducible assumption) | assumption)
           obtain ⟨ad605, e605, hx605_0⟩ := Kd.at_string (Kd.R_reads' HO_5.out).2.2 x7_2 p605 q605
           cases e605
           replace p605 := eq_true p605
           replace q605 := eq_true q605
           go_wp2_with (first | ((with_reducible refine gate_callee (f := 52) rfl ?_); refine goesL_ (some 35) rfl rfl Try.func52 (by kernel_rfl) rfl #[.slice A0 l0.length c0, .string (rdOf ByteArray.empty t601 x7_2)] rfl (by (try simp only [List.map_toArray, List.map_cons, List.map_nil]); first | done | rfl | (simp only [List.length_drop, List.length_take]; rfl)) ?_; (with_reducible refine (ih k2 (by have := HJ2.out; have := HK2.out; omega) _ _ l0 (rdOf ByteArray.empty t601 x7_2) true _ ?side1 ?side2 A16.out).mono ?_); (case side1 => repeat (first | exact (Kd.C_below HR0.out HB.out) | (with_reducible refine Kd.C_alloc ?_ _) | (with_reducible refine Kd.C_drewN ?_ _) | (with_reducible refine Kd.C_drew ?_))); (case side2 => exact HC0.out); rintro e w19 ⟨rfl, hb⟩; refine ⟨_, rfl, ?_⟩; have n0_ := Aside0.mk (Kd.R_below (by (with_reducible repeat (first | apply Kd.R_alloc | apply Kd.R_drewN | apply Kd.R_drew)); exact HO_5.out) hb); have n1_ := Aside0.mk (below_step (by repeat (first | (with_reducible first | exact HB.out | apply below_alloc | apply pw_below_drewN | apply below_drew1) | exact HB.out)) hb); clear HO_5; clear HB; have HO_5 := n0_; have HB := n1_; clear n0_ n1_; (try clear hb); (try clear hb2); (try clear hk); (try clear hi)))
           go_roundg k2
           case measure => have := HJ2.out; have := HK2.out; omega
           case rel => exact ⟨(wrap64 (x7_2 + 1)), (by first | rfl | (simp; done) | (simp [*]; done)), H', ⟨by have := HJ2.out; have := HK2.out; omega⟩, ⟨by (with_reducible repeat (first | apply Kd.R_alloc | apply Kd.R_drewN | apply Kd.R_drew)); exact HO_5.out⟩, ⟨by repeat (first | (with_reducible first | exact HB.out | apply below_alloc | apply pw_below_drewN | apply below_drew1) | exact HB.out)⟩⟩
          ·replace c17 := Bool.eq_false_iff.mpr c17
           subst c17
           have H1 : (some false) = some r := by rw [if_neg (show ¬ (false = true) by decide)] at H; exact H
           clear H
           have H := H1
           clear H1
           obtain rfl := Option.some.inj H
           obtain ⟨Ao20, co20, eo20⟩ := Kd.R_slice HO_5.out
           subst eo20
           have p605 : 0 ≤ (x7_2 : Int) := of_decide_eq_true (by first | (with_reducible assumption) | assumption)
           have q605 : x7_2 < (t601.length : Int) := of_decide_eq_true (by first | (with_reducible assumption) | assumption)
           obtain ⟨ad605, e605, hx605_0⟩ := Kd.at_string (Kd.R_reads' HO_5.out).2.2 x7_2 p605 q605
           cases e605
           replace p605 := eq_true p605
           replace q605 := eq_true q605
           go_wp2_with (first | ((with_reducible refine gate_callee (f := 52) rfl ?_); refine goesL_ (some 35) rfl rfl Try.func52 (by kernel_rfl) rfl #[.slice A0 l0.length c0, .string (rdOf ByteArray.empty t601 x7_2)] rfl (by (try simp only [List.map_toArray, List.map_cons, List.map_nil]); first | done | rfl | (simp only [List.length_drop, List.length_take]; rfl)) ?_; (with_reducible refine (ih k2 (by have := HJ2.out; have := HK2.out; omega) _ _ l0 (rdOf ByteArray.empty t601 x7_2) false _ ?side1 ?side2 A16.out).mono ?_); (case side1 => repeat (first | exact (Kd.C_below HR0.out HB.out) | (with_reducible refine Kd.C_alloc ?_ _) | (with_reducible refine Kd.C_drewN ?_ _) | (with_reducible refine Kd.C_drew ?_))); (case side2 => exact HC0.out); rintro e w21 ⟨rfl, hb⟩; refine ⟨_, rfl, ?_⟩; have n0_ := Aside0.mk (Kd.R_below (by (with_reducible repeat (first | apply Kd.R_alloc | apply Kd.R_drewN | apply Kd.R_drew)); exact HO_5.out) hb); have n1_ := Aside0.mk (below_step (by repeat (first | (with_reducible first | exact HB.out | apply below_alloc | apply pw_below_drewN | apply below_drew1) | exact HB.out)) hb); clear HO_5; clear HB; have HO_5 := n0_; have HB := n1_; clear n0_ n1_; (try clear hb); (try clear hb2); (try clear hk); (try clear hi)))
           go_ret
           exact ⟨by first | rfl | (simp [errW_none, errW_some] <;> rfl) | (simp [*, errW_none, errW_some] <;> rfl), by repeat (first | (with_reducible first | exact HB.out | apply below_alloc | apply pw_below_drewN | apply below_drew1) | exact HB.out)⟩
         ·rw [if_neg c15] at H
          exact absurd H (by simp)
        ·rw [if_neg c14] at H
         have c14b0 : decide (x7_2 < (t601.length : Int)) = false := decide_eq_false c14
         clear c14
         obtain rfl := Option.some.inj H
         obtain ⟨Ao22, co22, eo22⟩ := Kd.R_slice HO_5.out
         subst eo22
         go_wp2
         go_ret
         exact ⟨by first | rfl | (simp [errW_none, errW_some] <;> rfl) | (simp [*, errW_none, errW_some] <;> rfl), by repeat (first | (with_reducible first | exact HB.out | apply below_alloc | apply pw_below_drewN | apply below_drew1) | exact HB.out)⟩
    ·rw [if_neg c9] at H
     exact absurd H (by simp)

/-! ### letterlockref4_gives: function 75 -/
def letterlockref4_gives.f (k : Nat) (l0 : List ByteArray) (a1 : ByteArray) : Option (List ByteArray) := (letterlockref3_Parts.f k a1).bind fun bt607 => (if 0 < (a1.size : Int) then (if (bt a1 0) = 112 then (some bt607.1) else (if (bt a1 0) = 103 then (if 1 ≤ (bt607.1.length : Int) then (some (bt607.1.drop (1 : Int).toNat)) else (none)) else (if (bt a1 0) = 115 then (if 0 < (bt607.1.length : Int) then ((letterlockref4_together.f k l0 (rdOf ByteArray.empty bt607.1 0)).bind fun t615 => (if t615 = true then (if 1 ≤ (bt607.1.length : Int) then (some (bt607.1.drop (1 : Int).toNat)) else (none)) else (some ([] : List ByteArray)))) else (none)) else (if (bt a1 0) = 98 then (if 0 < (bt607.1.length : Int) then (if 1 ≤ ((rdOf ByteArray.empty bt607.1 0).size : Int) then ((letterlockref4_together.f k l0 ((rdOf ByteArray.empty bt607.1 0).extract 1 (rdOf ByteArray.empty bt607.1 0).size)).bind fun t620 => (if t620 = true then (if 1 ≤ (bt607.1.length : Int) then (some (bt607.1.drop (1 : Int).toNat)) else (none)) else (some ([] : List ByteArray)))) else (none)) else (none)) else (some ([] : List ByteArray)))))) else (none))
theorem letterlockref4_gives.mono : ∀ a0 a1 k, LeO (letterlockref4_gives.f k a0 a1) (letterlockref4_gives.f (k + 1) a0 a1) := by
 intro a0 a1 k
 unfold letterlockref4_gives.f
 repeat' first
   | (with_reducible exact letterlockref3_Parts.mono _ _)
   | (with_reducible exact letterlockref4_together.mono _ _ _)
   | (with_reducible exact LeO.refl _)
   | (with_reducible exact LeO.none _)
   | (with_reducible refine LeO.ite ?_ ?_)
   | (with_reducible refine LeO.bind ?_ (fun _ => ?_))
   | exact letterlockref3_Parts.mono _ _
   | exact letterlockref4_together.mono _ _ _
   | exact LeO.none _
   | refine LeO.ite ?_ ?_
   | refine LeO.bind ?_ (fun _ => ?_)
set_option maxHeartbeats 8000000 in
set_option maxRecDepth 100000 in
theorem letterlockref4_gives.calls (k : Nat) (A0 : Option Addr) (c0 : Nat) (l0 : List ByteArray) (a1 : ByteArray) (r : List ByteArray) (w : World) (hr0 : Kd.C Kd.string w A0 l0.length l0) (hc0 : l0.length ≤ c0) (h : letterlockref4_gives.f k l0 a1 = some r) :
  Calls Try.prog 75 #[.slice A0 l0.length c0, .string a1] w fun e w' => ∃ v0_ : Value, e = .returned (v0_) ∧ Kd.Q Kd.string 9 w' w.heap.size (fun _ => True) v0_ r ∧ Below w.heap.size w w' := by
 have HR0 := Aside0.mk hr0
 have HC0 := Aside0.mk hc0
 clear hr0 hc0
 have HB := Aside0.mk (Below.refl w.heap.size w)
 have H : ((letterlockref3_Parts.f k a1).bind fun bt607 => (if 0 < (a1.size : Int) then (if (bt a1 0) = 112 then (some bt607.1) else (if (bt a1 0) = 103 then (if 1 ≤ (bt607.1.length : Int) then (some (bt607.1.drop (1 : Int).toNat)) else (none)) else (if (bt a1 0) = 115 then (if 0 < (bt607.1.length : Int) then ((letterlockref4_together.f k l0 (rdOf ByteArray.empty bt607.1 0)).bind fun t615 => (if t615 = true then (if 1 ≤ (bt607.1.length : Int) then (some (bt607.1.drop (1 : Int).toNat)) else (none)) else (some ([] : List ByteArray)))) else (none)) else (if (bt a1 0) = 98 then (if 0 < (bt607.1.length : Int) then (if 1 ≤ ((rdOf ByteArray.empty bt607.1 0).size : Int) then ((letterlockref4_together.f k l0 ((rdOf ByteArray.empty bt607.1 0).extract 1 (rdOf ByteArray.empty bt607.1 0).size)).bind fun t620 => (if t620 = true then (if 1 ≤ (bt607.1.length : Int) then (some (bt607.1.drop (1 : Int).toNat)) else (none)) else (some ([] : List ByteArray)))) else (none)) else (none)) else (some ([] : List ByteArray)))))) else (none))) = some r := h
 clear h
 replace H := Option.bind_eq_some_iff.mp H
 obtain ⟨⟨t607, t608⟩, A30, H⟩ := H
 replace H : (if 0 < (a1.size : Int) then (if (bt a1 0) = 112 then (some t607) else (if (bt a1 0) = 103 then (if 1 ≤ (t607.length : Int) then (some (t607.drop (1 : Int).toNat)) else (none)) else (if (bt a1 0) = 115 then (if 0 < (t607.length : Int) then ((letterlockref4_together.f k l0 (rdOf ByteArray.empty t607 0)).bind fun t615 => (if t615 = true then (if 1 ≤ (t607.length : Int) then (some (t607.drop (1 : Int).toNat)) else (none)) else (some ([] : List ByteArray)))) else (none)) else (if (bt a1 0) = 98 then (if 0 < (t607.length : Int) then (if 1 ≤ ((rdOf ByteArray.empty t607 0).size : Int) then ((letterlockref4_together.f k l0 ((rdOf ByteArray.empty t607 0).extract 1 (rdOf ByteArray.empty t607 0).size)).bind fun t620 => (if t620 = true then (if 1 ≤ (t607.length : Int) then (some (t607.drop (1 : Int).toNat)) else (none)) else (some ([] : List ByteArray)))) else (none)) else (none)) else (some ([] : List ByteArray)))))) else (none)) = some r := H
 have A3 := Aside0.mk A30
 clear A30
 by_cases c4 : 0 < (a1.size : Int)
 ·rw [if_pos c4] at H
  have c4b0 : decide (0 < (a1.size : Int)) = true := decide_eq_true c4
  have c4b1 : decide (0 < a1.size) = true := decide_eq_true (by omega)
  clear c4
  by_cases c6 : (bt a1 0) = 112
  ·rw [if_pos c6] at H
   have c6b0 : ((bt a1 0) == 112) = true := beq_iff_eq.mpr c6
   have c6b1 : ((bt a1 0) != 112) = false := bne_eq_false_iff_eq.mpr c6
   clear c6
   obtain rfl := Option.some.inj H
   go_enter Try.func75, Try.ntmps75
   go_wp2_with (first | ((with_reducible refine gate_callee (f := 76) rfl ?_); refine goesL_ (some 9) rfl rfl Try.func76 (by kernel_rfl) rfl #[.string a1] rfl (by (try simp only [List.map_toArray, List.map_cons, List.map_nil]); first | done | rfl | (simp only [List.length_drop, List.length_take]; rfl)) ?_; (with_reducible refine (letterlockref3_Parts.calls k a1 t607 t608 _ A3.out).mono ?_); rintro e w7 ⟨v609, rfl, ho0, hb⟩; refine ⟨_, rfl, ?_⟩; have n0_ := Aside0.mk (Kd.R_lower ho0 (below_size (by repeat (first | (with_reducible first | exact HB.out | apply below_alloc | apply pw_below_drewN | apply below_drew1) | exact HB.out)))); have n1_ := Aside0.mk (below_step (by repeat (first | (with_reducible first | exact HB.out | apply below_alloc | apply pw_below_drewN | apply below_drew1) | exact HB.out)) hb); clear HB; have HO610 := n0_; have HB := n1_; clear n0_ n1_; (try clear hb); (try clear hb2); (try clear hk); (try clear hi); (try clear ho0); have p5 : 0 ≤ (0 : Int) := (by omega); have q5 : 0 < a1.size := (by have : (0 : Int) < (a1.size : Int) := of_decide_eq_true (by first | (with_reducible assumption) | assumption); omega); have hx5 : ∀ h : 0 < a1.size, ((a1[0]'h).toNat : Int) = bt a1 0 := bt_at a1 0; clear p5; have qi5 : (0 < (a1.size : Int)) = True := eq_true (of_decide_eq_true (by first | (with_reducible assumption) | assumption)); replace q5 := eq_true q5))
   go_ret
   exact ⟨_, by first | rfl | (simp [errW_none, errW_some] <;> rfl) | (simp [*, errW_none, errW_some] <;> rfl), Kd.Q_of_R (by (with_reducible repeat (first | apply Kd.R_alloc | apply Kd.R_drewN | apply Kd.R_drew)); exact HO610.out), by repeat (first | (with_reducible first | exact HB.out | apply below_alloc | apply pw_below_drewN | apply below_drew1) | exact HB.out)⟩
  ·rw [if_neg c6] at H
   have c6b0 : ((bt a1 0) == 112) = false := beq_eq_false_iff_ne.mpr c6
   have c6b1 : ((bt a1 0) != 112) = true := bne_iff_ne.mpr c6
   by_cases c8 : (bt a1 0) = 103
   ·rw [if_pos c8] at H
    have c8b0 : ((bt a1 0) == 103) = true := beq_iff_eq.mpr c8
    have c8b1 : ((bt a1 0) != 103) = false := bne_eq_false_iff_eq.mpr c8
    clear c8
    by_cases c9 : 1 ≤ (t607.length : Int)
    ·rw [if_pos c9] at H
     have c9b0 := eq_true c9
     have c9b1 : decide (1 ≤ (t607.length : Int)) = true := decide_eq_true c9
     clear c9
     obtain ⟨y611, hy611⟩ : ∃ y_ : List ByteArray, y_ = (t607.drop (1 : Int).toNat) := ⟨_, rfl⟩
     replace H : (some y611) = some r := by first | (rw [hy611]; with_reducible exact H) | (have H2_ := (Option.bind_some _ _).symm.trans H; rw [hy611]; with_reducible exact H2_) | (have H2_ := (Option.bind_some _ _).symm.trans H; with_reducible exact H2_) | with_reducible exact H | (rw [hy611]; exact H) | exact H
     have Ny611 := Aside0.mk hy611
     clear hy611
     obtain rfl := Option.some.inj H
     go_enter Try.func75, Try.ntmps75
     go_wp2_with (first | ((with_reducible refine gate_callee (f := 76) rfl ?_); refine goesL_ (some 9) rfl rfl Try.func76 (by kernel_rfl) rfl #[.string a1] rfl (by (try simp only [List.map_toArray, List.map_cons, List.map_nil]); first | done | rfl | (simp only [List.length_drop, List.length_take]; rfl)) ?_; (with_reducible refine (letterlockref3_Parts.calls k a1 t607 t608 _ A3.out).mono ?_); rintro e w10 ⟨v609, rfl, ho0, hb⟩; refine ⟨_, rfl, ?_⟩; have n0_ := Aside0.mk (Kd.R_lower ho0 (below_size (by repeat (first | (with_reducible first | exact HB.out | apply below_alloc | apply pw_below_drewN | apply below_drew1) | exact HB.out)))); have n1_ := Aside0.mk (below_step (by repeat (first | (with_reducible first | exact HB.out | apply below_alloc | apply pw_below_drewN | apply below_drew1) | exact HB.out)) hb); clear HB; have HO610 := n0_; have HB := n1_; clear n0_ n1_; (try clear hb); (try clear hb2); (try clear hk); (try clear hi); (try clear ho0); have p5 : 0 ≤ (0 : Int) := (by omega); have q5 : 0 < a1.size := (by have : (0 : Int) < (a1.size : Int) := of_decide_eq_true (by first | (with_reducible assumption) | assumption); omega); have hx5 : ∀ h : 0 < a1.size, ((a1[0]'h).toNat : Int) = bt a1 0 := bt_at a1 0; clear p5; have qi5 : (0 < (a1.size : Int)) = True := eq_true (of_decide_eq_true (by first | (with_reducible assumption) | assumption)); replace q5 := eq_true q5; obtain ⟨Ao11, co11, eo11⟩ := Kd.R_slice HO610.out; subst eo11; have q12 : (1 : Int) ≤ ((t607.length : Int) : Int) := of_decide_eq_true (by first | (with_reducible assumption) | assumption); obtain ⟨i012, hi012, _, hsz12, _⟩ := info_parts info9; have hcut12 := cut_from (P := Try.prog) 31 9 .i64 Try.underlying31 hi012 1 hsz12 Ao11 t607.length co11 1 (by omega) q12; have hr12 := Kd.Q_drop (k := (1 : Int).toNat) (Kd.Q_of_R HO610.out) (by omega); obtain ⟨A12, hA12⟩ : ∃ A1, A1 = (if co11 = (1 : Int).toNat then Ao11 else (Ao11 : Option Addr).map (·.add ((1 : Int).toNat * 1))) := ⟨_, rfl⟩; obtain ⟨c12, hc12⟩ : ∃ c1, c1 = co11 - (1 : Int).toNat := ⟨_, rfl⟩; have hy12 : y611.length = t607.length - (1 : Int).toNat := (by rw [Ny611.out, List.length_drop]); rw [← Ny611.out] at hr12; rw [← hy12, ← hA12, ← hc12] at hcut12; replace hr12 : Kd.Q Kd.string 9 w10 w.heap.size (fun _ => True) (.slice A12 y611.length c12) y611 := (by rw [hA12, hc12, hy12]; exact hr12); have HE12 : Aside0 ((Value.slice A12 y611.length c12).ownBlock = (.slice Ao11 t607.length co11 : Value).ownBlock) := ⟨by rw [hA12]; split <;> (cases (Ao11 : Option Addr) <;> rfl)⟩; clear hy12 hi012 hsz12 HO610 hA12 hc12; have HO613 := Aside0.mk hr12; clear hr12; replace q12 := eq_true q12))
     go_ret
     exact ⟨_, by first | rfl | (simp [errW_none, errW_some] <;> rfl) | (simp [*, errW_none, errW_some] <;> rfl), by (with_reducible repeat (first | apply Kd.Q_alloc | apply Kd.Q_drewN | apply Kd.Q_drew)); exact HO613.out, by repeat (first | (with_reducible first | exact HB.out | apply below_alloc | apply pw_below_drewN | apply below_drew1) | exact HB.out)⟩
    ·rw [if_neg c9] at H
     exact absurd H (by simp)
   ·rw [if_neg c8] at H
    have c8b0 : ((bt a1 0) == 103) = false := beq_eq_false_iff_ne.mpr c8
    have c8b1 : ((bt a1 0) != 103) = true := bne_iff_ne.mpr c8
    by_cases c13 : (bt a1 0) = 115
    ·rw [if_pos c13] at H
     have c13b0 : ((bt a1 0) == 115) = true := beq_iff_eq.mpr c13
     have c13b1 : ((bt a1 0) != 115) = false := bne_eq_false_iff_eq.mpr c13
     clear c13
     by_cases c14 : 0 < (t607.length : Int)
     ·rw [if_pos c14] at H
      have c14b0 : decide (0 < (t607.length : Int)) = true := decide_eq_true c14
      have c14b1 : decide (0 < t607.length) = true := decide_eq_true (by omega)
      clear c14
      replace H := Option.bind_eq_some_iff.mp H
      obtain ⟨t615, A150, H⟩ := H
      replace H : (if t615 = true then (if 1 ≤ (t607.length : Int) then (some (t607.drop (1 : Int).toNat)) else (none)) else (some ([] : List ByteArray))) = some r := H
      have A15 := Aside0.mk A150
      clear A150
      by_cases c16 : t615 = true
      ·subst c16
       have H1 : (if 1 ≤ (t607.length : Int) then (some (t607.drop (1 : Int).toNat)) else (none)) = some r := by rw [if_pos rfl] at H; exact H
       clear H
       have H := H1
       clear H1
       by_cases c17 : 1 ≤ (t607.length : Int)
       ·rw [if_pos c17] at H
        have c17b0 := eq_true c17
        have c17b1 : decide (1 ≤ (t607.length : Int)) = true := decide_eq_true c17
        clear c17
        obtain ⟨y616, hy616⟩ : ∃ y_ : List ByteArray, y_ = (t607.drop (1 : Int).toNat) := ⟨_, rfl⟩
        replace H : (some y616) = some r := by first | (rw [hy616]; with_reducible exact H) | (have H2_ := (Option.bind_some _ _).symm.trans H; rw [hy616]; with_reducible exact H2_) | (have H2_ := (Option.bind_some _ _).symm.trans H; with_reducible exact H2_) | with_reducible exact H | (rw [hy616]; exact H) | exact H
        have Ny616 := Aside0.mk hy616
        clear hy616
        obtain rfl := Option.some.inj H
        go_enter Try.func75, Try.ntmps75
        go_wp2_with (first | ((with_reducible refine gate_callee (f := 76) rfl ?_); refine goesL_ (some 9) rfl rfl Try.func76 (by kernel_rfl) rfl #[.string a1] rfl (by (try simp only [List.map_toArray, List.map_cons, List.map_nil]); first | done | rfl | (simp only [List.length_drop, List.length_take]; rfl)) ?_; (with_reducible refine (letterlockref3_Parts.calls k a1 t607 t608 _ A3.out).mono ?_); rintro e w18 ⟨v609, rfl, ho0, hb⟩; refine ⟨_, rfl, ?_⟩; have n0_ := Aside0.mk (Kd.R_lower ho0 (below_size (by repeat (first | (with_reducible first | exact HB.out | apply below_alloc | apply pw_below_drewN | apply below_drew1) | exact HB.out)))); have n1_ := Aside0.mk (below_step (by repeat (first | (with_reducible first | exact HB.out | apply below_alloc | apply pw_below_drewN | apply below_drew1) | exact HB.out)) hb); clear HB; have HO610 := n0_; have HB := n1_; clear n0_ n1_; (try clear hb); (try clear hb2); (try clear hk); (try clear hi); (try clear ho0); have p5 : 0 ≤ (0 : Int) := (by omega); have q5 : 0 < a1.size := (by have : (0 : Int) < (a1.size : Int) := of_decide_eq_true (by first | (with_reducible assumption) | assumption); omega); have hx5 : ∀ h : 0 < a1.size, ((a1[0]'h).toNat : Int) = bt a1 0 := bt_at a1 0; clear p5; have qi5 : (0 < (a1.size : Int)) = True := eq_true (of_decide_eq_true (by first | (with_reducible assumption) | assumption)); replace q5 := eq_true q5; obtain ⟨Ao19, co19, eo19⟩ := Kd.R_slice HO610.out; subst eo19; have p614 : 0 ≤ (0 : Int) := (by omega); have q614 : 0 < (t607.length : Int) := of_decide_eq_true (by first | (with_reducible assumption) | assumption); obtain ⟨ad614, e614, hx614_0⟩ := Kd.at_string (Kd.R_reads' HO610.out).2.2 0 p614 q614; cases e614; have qi614 : (0 < t607.length) = True := eq_true (by omega); (try rw [show ((0 : Int)).toNat = 0 from rfl] at hx614_0); (try rw [Addr.add_zero'] at hx614_0); replace p614 := eq_true p614; replace q614 := eq_true q614) | ((with_reducible refine gate_callee (f := 52) rfl ?_); refine goesL_ (some 27) rfl rfl Try.func52 (by kernel_rfl) rfl #[.slice A0 l0.length c0, .string (rdOf ByteArray.empty t607 0)] rfl (by (try simp only [List.map_toArray, List.map_cons, List.map_nil]); first | done | rfl | (simp only [List.length_drop, List.length_take]; rfl)) ?_; (with_reducible refine (letterlockref4_together.calls k _ _ l0 (rdOf ByteArray.empty t607 0) true _ ?side1 ?side2 A15.out).mono ?_); (case side1 => repeat (first | exact (Kd.C_below HR0.out HB.out) | (with_reducible refine Kd.C_alloc ?_ _) | (with_reducible refine Kd.C_drewN ?_ _) | (with_reducible refine Kd.C_drew ?_))); (case side2 => exact HC0.out); rintro e w20 ⟨rfl, hb⟩; refine ⟨_, rfl, ?_⟩; have n0_ := Aside0.mk (Kd.R_below (by (with_reducible repeat (first | apply Kd.R_alloc | apply Kd.R_drewN | apply Kd.R_drew)); exact HO610.out) hb); have n1_ := Aside0.mk (below_step (by repeat (first | (with_reducible first | exact HB.out | apply below_alloc | apply pw_below_drewN | apply below_drew1) | exact HB.out)) hb); clear HO610; clear HB; have HO610 := n0_; have HB := n1_; clear n0_ n1_; (try clear hb); (try clear hb2); (try clear hk); (try clear hi); have q21 : (1 : Int) ≤ ((t607.length : Int) : Int) := of_decide_eq_true (by first | (with_reducible assumption) | assumption); obtain ⟨i021, hi021, _, hsz21, _⟩ := info_parts info9; have hcut21 := cut_from (P := Try.prog) 31 9 .i64 Try.underlying31 hi021 1 hsz21 (some ad614) t607.length co19 1 (by omega) q21; have hr21 := Kd.Q_drop (k := (1 : Int).toNat) (Kd.Q_of_R HO610.out) (by omega); obtain ⟨A21, hA21⟩ : ∃ A1, A1 = (if co19 = (1 : Int).toNat then (some ad614) else ((some ad614) : Option Addr).map (·.add ((1 : Int).toNat * 1))) := ⟨_, rfl⟩; obtain ⟨c21, hc21⟩ : ∃ c1, c1 = co19 - (1 : Int).toNat := ⟨_, rfl⟩; have hy21 : y616.length = t607.length - (1 : Int).toNat := (by rw [Ny616.out, List.length_drop]); rw [← Ny616.out] at hr21; rw [← hy21, ← hA21, ← hc21] at hcut21; replace hr21 : Kd.Q Kd.string 9 w20 w.heap.size (fun _ => True) (.slice A21 y616.length c21) y616 := (by rw [hA21, hc21, hy21]; exact hr21); have HE21 : Aside0 ((Value.slice A21 y616.length c21).ownBlock = (.slice (some ad614) t607.length co19 : Value).ownBlock) := ⟨by rw [hA21]; split <;> (cases ((some ad614) : Option Addr) <;> rfl)⟩; clear hy21 hi021 hsz21 HO610 hA21 hc21; have HO618 := Aside0.mk hr21; clear hr21; replace q21 := eq_true q21))
        go_ret
        exact ⟨_, by first | rfl | (simp [errW_none, errW_some] <;> rfl) | (simp [*, errW_none, errW_some] <;> rfl), by (with_reducible repeat (first | apply Kd.Q_alloc | apply Kd.Q_drewN | apply Kd.Q_drew)); exact HO618.out, by repeat (first | (with_reducible first | exact HB.out | apply below_alloc | apply pw_below_drewN | apply below_drew1) | exact HB.out)⟩
       ·rw [if_neg c17] at H
        exact absurd H (by simp)
      ·replace c16 := Bool.eq_false_iff.mpr c16
       subst c16
       have H1 : (some ([] : List ByteArray)) = some r := by rw [if_neg (show ¬ (false = true) by decide)] at H; exact H
       clear H
       have H := H1
       clear H1
       obtain rfl := Option.some.inj H
       go_enter Try.func75, Try.ntmps75
       go_wp2_with (first | ((with_reducible refine gate_callee (f := 76) rfl ?_); refine goesL_ (some 9) rfl rfl Try.func76 (by kernel_rfl) rfl #[.string a1] rfl (by (try simp only [List.map_toArray, List.map_cons, List.map_nil]); first | done | rfl | (simp only [List.length_drop, List.length_take]; rfl)) ?_; (with_reducible refine (letterlockref3_Parts.calls k a1 t607 t608 _ A3.out).mono ?_); rintro e w22 ⟨v609, rfl, ho0, hb⟩; refine ⟨_, rfl, ?_⟩; have n0_ := Aside0.mk (Kd.R_lower ho0 (below_size (by repeat (first | (with_reducible first | exact HB.out | apply below_alloc | apply pw_below_drewN | apply below_drew1) | exact HB.out)))); have n1_ := Aside0.mk (below_step (by repeat (first | (with_reducible first | exact HB.out | apply below_alloc | apply pw_below_drewN | apply below_drew1) | exact HB.out)) hb); clear HB; have HO610 := n0_; have HB := n1_; clear n0_ n1_; (try clear hb); (try clear hb2); (try clear hk); (try clear hi); (try clear ho0); have p5 : 0 ≤ (0 : Int) := (by omega); have q5 : 0 < a1.size := (by have : (0 : Int) < (a1.size : Int) := of_decide_eq_true (by first | (with_reducible assumption) | assumption); omega); have hx5 : ∀ h : 0 < a1.size, ((a1[0]'h).toNat : Int) = bt a1 0 := bt_at a1 0; clear p5; have qi5 : (0 < (a1.size : Int)) = True := eq_true (of_decide_eq_true (by first | (with_reducible assumption) | assumption)); replace q5 := eq_true q5; obtain ⟨Ao23, co23, eo23⟩ := Kd.R_slice HO610.out; subst eo23; have p614 : 0 ≤ (0 : Int) := (by omega); have q614 : 0 < (t607.length : Int) := of_decide_eq_true (by first | (with_reducible assumption) | assumption); obtain ⟨ad614, e614, hx614_0⟩ := Kd.at_string (Kd.R_reads' HO610.out).2.2 0 p614 q614; cases e614; have qi614 : (0 < t607.length) = True := eq_true (by omega); (try rw [show ((0 : Int)).toNat = 0 from rfl] at hx614_0); (try rw [Addr.add_zero'] at hx614_0); replace p614 := eq_true p614; replace q614 := eq_true q614) | ((with_reducible refine gate_callee (f := 52) rfl ?_); refine goesL_ (some 27) rfl rfl Try.func52 (by kernel_rfl) rfl #[.slice A0 l0.length c0, .string (rdOf ByteArray.empty t607 0)] rfl (by (try simp only [List.map_toArray, List.map_cons, List.map_nil]); first | done | rfl | (simp only [List.length_drop, List.length_take]; rfl)) ?_; (with_reducible refine (letterlockref4_together.calls k _ _ l0 (rdOf ByteArray.empty t607 0) false _ ?side1 ?side2 A15.out).mono ?_); (case side1 => repeat (first | exact (Kd.C_below HR0.out HB.out) | (with_reducible refine Kd.C_alloc ?_ _) | (with_reducible refine Kd.C_drewN ?_ _) | (with_reducible refine Kd.C_drew ?_))); (case side2 => exact HC0.out); rintro e w24 ⟨rfl, hb⟩; refine ⟨_, rfl, ?_⟩; have n0_ := Aside0.mk (Kd.R_below (by (with_reducible repeat (first | apply Kd.R_alloc | apply Kd.R_drewN | apply Kd.R_drew)); exact HO610.out) hb); have n1_ := Aside0.mk (below_step (by repeat (first | (with_reducible first | exact HB.out | apply below_alloc | apply pw_below_drewN | apply below_drew1) | exact HB.out)) hb); clear HO610; clear HB; have HO610 := n0_; have HB := n1_; clear n0_ n1_; (try clear hb); (try clear hb2); (try clear hk); (try clear hi)))
       go_ret
       exact ⟨_, by first | rfl | (simp [errW_none, errW_some] <;> rfl) | (simp [*, errW_none, errW_some] <;> rfl), Kd.Q_of_R (by first | exact Kd.R_nil _ _ _ _ _ | exact Kd.N_nil _ _ _ _ _ | exact Kd.V_nil _ _ _ _ _ | exact Kd.Q_nil _ _ _ _ _ | exact Kd.S_nil _ _ _ _ _), by repeat (first | (with_reducible first | exact HB.out | apply below_alloc | apply pw_below_drewN | apply below_drew1) | exact HB.out)⟩
     ·rw [if_neg c14] at H
      exact absurd H (by simp)
    ·rw [if_neg c13] at H
     have c13b0 : ((bt a1 0) == 115) = false := beq_eq_false_iff_ne.mpr c13
     have c13b1 : ((bt a1 0) != 115) = true := bne_iff_ne.mpr c13
     by_cases c25 : (bt a1 0) = 98
     ·rw [if_pos c25] at H
      have c25b0 : ((bt a1 0) == 98) = true := beq_iff_eq.mpr c25
      have c25b1 : ((bt a1 0) != 98) = false := bne_eq_false_iff_eq.mpr c25
      clear c25
      by_cases c26 : 0 < (t607.length : Int)
      ·rw [if_pos c26] at H
       have c26b0 : decide (0 < (t607.length : Int)) = true := decide_eq_true c26
       have c26b1 : decide (0 < t607.length) = true := decide_eq_true (by omega)
       clear c26
       by_cases c27 : 1 ≤ ((rdOf ByteArray.empty t607 0).size : Int)
       ·rw [if_pos c27] at H
        have c27b0 := eq_true c27
        have c27b1 : decide (1 ≤ ((rdOf ByteArray.empty t607 0).size : Int)) = true := decide_eq_true c27
        clear c27
        replace H := Option.bind_eq_some_iff.mp H
        obtain ⟨t620, A280, H⟩ := H
        replace H : (if t620 = true then (if 1 ≤ (t607.length : Int) then (some (t607.drop (1 : Int).toNat)) else (none)) else (some ([] : List ByteArray))) = some r := H
        have A28 := Aside0.mk A280
        clear A280
        by_cases c29 : t620 = true
        ·subst c29
         have H1 : (if 1 ≤ (t607.length : Int) then (some (t607.drop (1 : Int).toNat)) else (none)) = some r := by rw [if_pos rfl] at H; exact H
         clear H
         have H := H1
         clear H1
         by_cases c30 : 1 ≤ (t607.length : Int)
         ·rw [if_pos c30] at H
          have c30b0 := eq_true c30
          have c30b1 : decide (1 ≤ (t607.length : Int)) = true := decide_eq_true c30
          clear c30
          obtain ⟨y621, hy621⟩ : ∃ y_ : List ByteArray, y_ = (t607.drop (1 : Int).toNat) := ⟨_, rfl⟩
          replace H : (some y621) = some r := by first | (rw [hy621]; with_reducible exact H) | (have H2_ := (Option.bind_some _ _).symm.trans H; rw [hy621]; with_reducible exact H2_) | (have H2_ := (Option.bind_some _ _).symm.trans H; with_reducible exact H2_) | with_reducible exact H | (rw [hy621]; exact H) | exact H
          have Ny621 := Aside0.mk hy621
          clear hy621
          obtain rfl := Option.some.inj H
          go_enter Try.func75, Try.ntmps75
          go_wp2_with (first | ((with_reducible refine gate_callee (f := 76) rfl ?_); refine goesL_ (some 9) rfl rfl Try.func76 (by kernel_rfl) rfl #[.string a1] rfl (by (try simp only [List.map_toArray, List.map_cons, List.map_nil]); first | done | rfl | (simp only [List.length_drop, List.length_take]; rfl)) ?_; (with_reducible refine (letterlockref3_Parts.calls k a1 t607 t608 _ A3.out).mono ?_); rintro e w31 ⟨v609, rfl, ho0, hb⟩; refine ⟨_, rfl, ?_⟩; have n0_ := Aside0.mk (Kd.R_lower ho0 (below_size (by repeat (first | (with_reducible first | exact HB.out | apply below_alloc | apply pw_below_drewN | apply below_drew1) | exact HB.out)))); have n1_ := Aside0.mk (below_step (by repeat (first | (with_reducible first | exact HB.out | apply below_alloc | apply pw_below_drewN | apply below_drew1) | exact HB.out)) hb); clear HB; have HO610 := n0_; have HB := n1_; clear n0_ n1_; (try clear hb); (try clear hb2); (try clear hk); (try clear hi); (try clear ho0); have p5 : 0 ≤ (0 : Int) := (by omega); have q5 : 0 < a1.size := (by have : (0 : Int) < (a1.size : Int) := of_decide_eq_true (by first | (with_reducible assumption) | assumption); omega); have hx5 : ∀ h : 0 < a1.size, ((a1[0]'h).toNat : Int) = bt a1 0 := bt_at a1 0; clear p5; have qi5 : (0 < (a1.size : Int)) = True := eq_true (of_decide_eq_true (by first | (with_reducible assumption) | assumption)); replace q5 := eq_true q5; obtain ⟨Ao32, co32, eo32⟩ := Kd.R_slice HO610.out; subst eo32; have p619 : 0 ≤ (0 : Int) := (by omega); have q619 : 0 < (t607.length : Int) := of_decide_eq_true (by first | (with_reducible assumption) | assumption); obtain ⟨ad619, e619, hx619_0⟩ := Kd.at_string (Kd.R_reads' HO610.out).2.2 0 p619 q619; cases e619; have qi619 : (0 < t607.length) = True := eq_true (by omega); (try rw [show ((0 : Int)).toNat = 0 from rfl] at hx619_0); (try rw [Addr.add_zero'] at hx619_0); replace p619 := eq_true p619; replace q619 := eq_true q619) | ((with_reducible refine gate_callee (f := 52) rfl ?_); refine goesL_ (some 37) rfl rfl Try.func52 (by kernel_rfl) rfl #[.slice A0 l0.length c0, .string ((rdOf ByteArray.empty t607 0).extract 1 (rdOf ByteArray.empty t607 0).size)] rfl (by (try simp only [List.map_toArray, List.map_cons, List.map_nil]); first | done | rfl | (simp only [List.length_drop, List.length_take]; rfl)) ?_; (with_reducible refine (letterlockref4_together.calls k _ _ l0 ((rdOf ByteArray.empty t607 0).extract 1 (rdOf ByteArray.empty t607 0).size) true _ ?side1 ?side2 A28.out).mono ?_); (case side1 => repeat (first | exact (Kd.C_below HR0.out HB.out) | (with_reducible refine Kd.C_alloc ?_ _) | (with_reducible refine Kd.C_drewN ?_ _) | (with_reducible refine Kd.C_drew ?_))); (case side2 => exact HC0.out); rintro e w33 ⟨rfl, hb⟩; refine ⟨_, rfl, ?_⟩; have n0_ := Aside0.mk (Kd.R_below (by (with_reducible repeat (first | apply Kd.R_alloc | apply Kd.R_drewN | apply Kd.R_drew)); exact HO610.out) hb); have n1_ := Aside0.mk (below_step (by repeat (first | (with_reducible first | exact HB.out | apply below_alloc | apply pw_below_drewN | apply below_drew1) | exact HB.out)) hb); clear HO610; clear HB; have HO610 := n0_; have HB := n1_; clear n0_ n1_; (try clear hb); (try clear hb2); (try clear hk); (try clear hi); have q34 : (1 : Int) ≤ ((t607.length : Int) : Int) := of_decide_eq_true (by first | (with_reducible assumption) | assumption); obtain ⟨i034, hi034, _, hsz34, _⟩ := info_parts info9; have hcut34 := cut_from (P := Try.prog) 31 9 .i64 Try.underlying31 hi034 1 hsz34 (some ad619) t607.length co32 1 (by omega) q34; have hr34 := Kd.Q_drop (k := (1 : Int).toNat) (Kd.Q_of_R HO610.out) (by omega); obtain ⟨A34, hA34⟩ : ∃ A1, A1 = (if co32 = (1 : Int).toNat then (some ad619) else ((some ad619) : Option Addr).map (·.add ((1 : Int).toNat * 1))) := ⟨_, rfl⟩; obtain ⟨c34, hc34⟩ : ∃ c1, c1 = co32 - (1 : Int).toNat := ⟨_, rfl⟩; have hy34 : y621.length = t607.length - (1 : Int).toNat := (by rw [Ny621.out, List.length_drop]); rw [← Ny621.out] at hr34; rw [← hy34, ← hA34, ← hc34] at hcut34; replace hr34 : Kd.Q Kd.string 9 w33 w.heap.size (fun _ => True) (.slice A34 y621.length c34) y621 := (by rw [hA34, hc34, hy34]; exact hr34); have HE34 : Aside0 ((Value.slice A34 y621.length c34).ownBlock = (.slice (some ad619) t607.length co32 : Value).ownBlock) := ⟨by rw [hA34]; split <;> (cases ((some ad619) : Option Addr) <;> rfl)⟩; clear hy34 hi034 hsz34 HO610 hA34 hc34; have HO623 := Aside0.mk hr34; clear hr34; replace q34 := eq_true q34))
          go_ret
          exact ⟨_, by first | rfl | (simp [errW_none, errW_some] <;> rfl) | (simp [*, errW_none, errW_some] <;> rfl), by (with_reducible repeat (first | apply Kd.Q_alloc | apply Kd.Q_drewN | apply Kd.Q_drew)); exact HO623.out, by repeat (first | (with_reducible first | exact HB.out | apply below_alloc | apply pw_below_drewN | apply below_drew1) | exact HB.out)⟩
         ·rw [if_neg c30] at H
          exact absurd H (by simp)
        ·replace c29 := Bool.eq_false_iff.mpr c29
         subst c29
         have H1 : (some ([] : List ByteArray)) = some r := by rw [if_neg (show ¬ (false = true) by decide)] at H; exact H
         clear H
         have H := H1
         clear H1
         obtain rfl := Option.some.inj H
         go_enter Try.func75, Try.ntmps75
         go_wp2_with (first | ((with_reducible refine gate_callee (f := 76) rfl ?_); refine goesL_ (some 9) rfl rfl Try.func76 (by kernel_rfl) rfl #[.string a1] rfl (by (try simp only [List.map_toArray, List.map_cons, List.map_nil]); first | done | rfl | (simp only [List.length_drop, List.length_take]; rfl)) ?_; (with_reducible refine (letterlockref3_Parts.calls k a1 t607 t608 _ A3.out).mono ?_); rintro e w35 ⟨v609, rfl, ho0, hb⟩; refine ⟨_, rfl, ?_⟩; have n0_ := Aside0.mk (Kd.R_lower ho0 (below_size (by repeat (first | (with_reducible first | exact HB.out | apply below_alloc | apply pw_below_drewN | apply below_drew1) | exact HB.out)))); have n1_ := Aside0.mk (below_step (by repeat (first | (with_reducible first | exact HB.out | apply below_alloc | apply pw_below_drewN | apply below_drew1) | exact HB.out)) hb); clear HB; have HO610 := n0_; have HB := n1_; clear n0_ n1_; (try clear hb); (try clear hb2); (try clear hk); (try clear hi); (try clear ho0); have p5 : 0 ≤ (0 : Int) := (by omega); have q5 : 0 < a1.size := (by have : (0 : Int) < (a1.size : Int) := of_decide_eq_true (by first | (with_reducible assumption) | assumption); omega); have hx5 : ∀ h : 0 < a1.size, ((a1[0]'h).toNat : Int) = bt a1 0 := bt_at a1 0; clear p5; have qi5 : (0 < (a1.size : Int)) = True := eq_true (of_decide_eq_true (by first | (with_reducible assumption) | assumption)); replace q5 := eq_true q5; obtain ⟨Ao36, co36, eo36⟩ := Kd.R_slice HO610.out; subst eo36; have p619 : 0 ≤ (0 : Int) := (by omega); have q619 : 0 < (t607.length : Int) := of_decide_eq_true (by first | (with_reducible assumption) | assumption); obtain ⟨ad619, e619, hx619_0⟩ := Kd.at_string (Kd.R_reads' HO610.out).2.2 0 p619 q619; cases e619; have qi619 : (0 < t607.length) = True := eq_true (by omega); (try rw [show ((0 : Int)).toNat = 0 from rfl] at hx619_0); (try rw [Addr.add_zero'] at hx619_0); replace p619 := eq_true p619; replace q619 := eq_true q619) | ((with_reducible refine gate_callee (f := 52) rfl ?_); refine goesL_ (some 37) rfl rfl Try.func52 (by kernel_rfl) rfl #[.slice A0 l0.length c0, .string ((rdOf ByteArray.empty t607 0).extract 1 (rdOf ByteArray.empty t607 0).size)] rfl (by (try simp only [List.map_toArray, List.map_cons, List.map_nil]); first | done | rfl | (simp only [List.length_drop, List.length_take]; rfl)) ?_; (with_reducible refine (letterlockref4_together.calls k _ _ l0 ((rdOf ByteArray.empty t607 0).extract 1 (rdOf ByteArray.empty t607 0).size) false _ ?side1 ?side2 A28.out).mono ?_); (case side1 => repeat (first | exact (Kd.C_below HR0.out HB.out) | (with_reducible refine Kd.C_alloc ?_ _) | (with_reducible refine Kd.C_drewN ?_ _) | (with_reducible refine Kd.C_drew ?_))); (case side2 => exact HC0.out); rintro e w37 ⟨rfl, hb⟩; refine ⟨_, rfl, ?_⟩; have n0_ := Aside0.mk (Kd.R_below (by (with_reducible repeat (first | apply Kd.R_alloc | apply Kd.R_drewN | apply Kd.R_drew)); exact HO610.out) hb); have n1_ := Aside0.mk (below_step (by repeat (first | (with_reducible first | exact HB.out | apply below_alloc | apply pw_below_drewN | apply below_drew1) | exact HB.out)) hb); clear HO610; clear HB; have HO610 := n0_; have HB := n1_; clear n0_ n1_; (try clear hb); (try clear hb2); (try clear hk); (try clear hi)))
         go_ret
         exact ⟨_, by first | rfl | (simp [errW_none, errW_some] <;> rfl) | (simp [*, errW_none, errW_some] <;> rfl), Kd.Q_of_R (by first | exact Kd.R_nil _ _ _ _ _ | exact Kd.N_nil _ _ _ _ _ | exact Kd.V_nil _ _ _ _ _ | exact Kd.Q_nil _ _ _ _ _ | exact Kd.S_nil _ _ _ _ _), by repeat (first | (with_reducible first | exact HB.out | apply below_alloc | apply pw_below_drewN | apply below_drew1) | exact HB.out)⟩
       ·rw [if_neg c27] at H
        exact absurd H (by simp)
      ·rw [if_neg c26] at H
       exact absurd H (by simp)
     ·rw [if_neg c25] at H
      have c25b0 : ((bt a1 0) == 98) = false := beq_eq_false_iff_ne.mpr c25
      have c25b1 : ((bt a1 0) != 98) = true := bne_iff_ne.mpr c25
      obtain rfl := Option.some.inj H
      go_enter Try.func75, Try.ntmps75
      go_wp2_with (first | ((with_reducible refine gate_callee (f := 76) rfl ?_); refine goesL_ (some 9) rfl rfl Try.func76 (by kernel_rfl) rfl #[.string a1] rfl (by (try simp only [List.map_toArray, List.map_cons, List.map_nil]); first | done | rfl | (simp only [List.length_drop, List.length_take]; rfl)) ?_; (with_reducible refine (letterlockref3_Parts.calls k a1 t607 t608 _ A3.out).mono ?_); rintro e w38 ⟨v609, rfl, ho0, hb⟩; refine ⟨_, rfl, ?_⟩; have n0_ := Aside0.mk (Kd.R_lower ho0 (below_size (by repeat (first | (with_reducible first | exact HB.out | apply below_alloc | apply pw_below_drewN | apply below_drew1) | exact HB.out)))); have n1_ := Aside0.mk (below_step (by repeat (first | (with_reducible first | exact HB.out | apply below_alloc | apply pw_below_drewN | apply below_drew1) | exact HB.out)) hb); clear HB; have HO610 := n0_; have HB := n1_; clear n0_ n1_; (try clear hb); (try clear hb2); (try clear hk); (try clear hi); (try clear ho0); have p5 : 0 ≤ (0 : Int) := (by omega); have q5 : 0 < a1.size := (by have : (0 : Int) < (a1.size : Int) := of_decide_eq_true (by first | (with_reducible assumption) | assumption); omega); have hx5 : ∀ h : 0 < a1.size, ((a1[0]'h).toNat : Int) = bt a1 0 := bt_at a1 0; clear p5; have qi5 : (0 < (a1.size : Int)) = True := eq_true (of_decide_eq_true (by first | (with_reducible assumption) | assumption)); replace q5 := eq_true q5))
      go_ret
      exact ⟨_, by first | rfl | (simp [errW_none, errW_some] <;> rfl) | (simp [*, errW_none, errW_some] <;> rfl), Kd.Q_of_R (by first | exact Kd.R_nil _ _ _ _ _ | exact Kd.N_nil _ _ _ _ _ | exact Kd.V_nil _ _ _ _ _ | exact Kd.Q_nil _ _ _ _ _ | exact Kd.S_nil _ _ _ _ _), by repeat (first | (with_reducible first | exact HB.out | apply below_alloc | apply pw_below_drewN | apply below_drew1) | exact HB.out)⟩
 ·rw [if_neg c4] at H
  exact absurd H (by simp)

end Go.Proofs.Ytnieihhnchefdaa.PA
