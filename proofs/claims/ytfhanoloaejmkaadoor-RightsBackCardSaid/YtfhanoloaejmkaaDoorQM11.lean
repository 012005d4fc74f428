/- Contracts and laws that the statement of LawRightsUndo,LawRightsBack,LawRightsErrs leans on (packed from this claim's own texts): part 11. -/
import Derived.Test.YtfhanoloaejmkaaDoorQM7
import Derived.Test.YtfhanoloaejmkaaDoorQM10
section

namespace Go.Proofs.YtfhanoloaejmkaaDoor.PA
open Go.RowKit Go.Proofs.YtfhanoloaejmkaaDoorW.PrintWords Go.Proofs.YtfhanoloaejmkaaDoorW.PrintLast Go.Proofs.YtfhanoloaejmkaaDoorW.PrintMore
attribute [local go_sem] max2_int min2_int max_two min_two max_three min_three max_four min_four   -- for this text's walks alone
set_option linter.unusedVariables false
set_option linter.unusedSimpArgs false
mutual
def letterlockref1_first.j2 : Nat → ByteArray → Int → Int → Int → Option (Int × Int)
 | 0, _, _, _, _ => none
 | k + 1, x0, x4, x5, x6 => if x4 = 0 then (letterlockref1_first.j3 k x0 x4 x5 x6 true) else (letterlockref1_first.j3 k x0 x4 x5 x6 (decide ((x0.size : Int) < x4)))
def letterlockref1_first.j3 : Nat → ByteArray → Int → Int → Int → Bool → Option (Int × Int)
 | 0, _, _, _, _, _ => none
 | k + 1, x0, x4, x5, x6, x62 => if x62 = true then (some (0, 0)) else (letterlockref1_first.l0 k x0 x4 x5 x6 1)
def letterlockref1_first.l0 : Nat → ByteArray → Int → Int → Int → Int → Option (Int × Int)
 | 0, _, _, _, _, _ => none
 | k + 1, x0, x4, x5, x6, x7 => if x7 < x4 then (if 0 ≤ x7 then (if x7 < (x0.size : Int) then (if (bt x0 x7) < 128 then (some (0, 0)) else (if (bt x0 x7) > 191 then (some (0, 0)) else (letterlockref1_first.l0 k x0 x4 (wrap32 ((wrap32 (64 * x5)) + (((bt x0 x7) - 128) % 256))) x6 (wrap64 (x7 + 1))))) else (none)) else (none)) else (if x5 < x6 then (some (0, 0)) else ((letterlockref1_valid.f x5).bind fun t156 => (if t156 = true then (some (x5, x4)) else (some (0, 0)))))
def letterlockref1_first.j0 : Nat → ByteArray → Int → Int → Int → Bool → Option (Int × Int)
 | 0, _, _, _, _, _ => none
 | k + 1, x0, x4, x5, x6, x16 => if x16 = true then (if 0 < (x0.size : Int) then (letterlockref1_first.j2 k x0 2 (((bt x0 0) - 192) % 256) 128) else (none)) else (if 0 < (x0.size : Int) then (if (bt x0 0) ≥ 224 then (letterlockref1_first.j1 k x0 x4 x5 x6 (decide ((bt x0 0) < 240))) else (letterlockref1_first.j1 k x0 x4 x5 x6 false)) else (none))
def letterlockref1_first.j1 : Nat → ByteArray → Int → Int → Int → Bool → Option (Int × Int)
 | 0, _, _, _, _, _ => none
 | k + 1, x0, x4, x5, x6, x29 => if x29 = true then (if 0 < (x0.size : Int) then (letterlockref1_first.j2 k x0 3 (((bt x0 0) - 224) % 256) 2048) else (none)) else (if 0 < (x0.size : Int) then (if (bt x0 0) ≥ 240 then (if (bt x0 0) < 248 then (letterlockref1_first.j2 k x0 4 (((bt x0 0) - 240) % 256) 65536) else (letterlockref1_first.j2 k x0 x4 x5 x6)) else (letterlockref1_first.j2 k x0 x4 x5 x6)) else (none))
end
def letterlockref1_first.f (k : Nat) (a0 : ByteArray) : Option (Int × Int) := if a0.toList = ([] : List UInt8) then (some (0, 0)) else (if 0 < (a0.size : Int) then (if (bt a0 0) < 128 then (some (wrap32 (bt a0 0), 1)) else (if (bt a0 0) ≥ 192 then (letterlockref1_first.j0 k a0 0 0 0 (decide ((bt a0 0) < 224))) else (letterlockref1_first.j0 k a0 0 0 0 false))) else (none))
set_option maxHeartbeats 8000000 in
set_option maxRecDepth 100000 in
theorem letterlockref1_first.calls (k : Nat) (a0 : ByteArray) (r1 : Int) (r2 : Int) (w : World) (h : letterlockref1_first.f k a0 = some (r1, r2)) :
  Calls Tryd.prog 77 #[.string a0] w fun e w' => e = .returned (.tuple #[.int .i32 r1, .int .i64 r2]) ∧ Drawn0 w w' := by
 have H : (if a0.toList = ([] : List UInt8) then (some (0, 0)) else (if 0 < (a0.size : Int) then (if (bt a0 0) < 128 then (some (wrap32 (bt a0 0), 1)) else (if (bt a0 0) ≥ 192 then (letterlockref1_first.j0 k a0 0 0 0 (decide ((bt a0 0) < 224))) else (letterlockref1_first.j0 k a0 0 0 0 false))) else (none))) = some (r1, r2) := h
 clear h
 by_cases c2 : a0.toList = ([] : List UInt8)
 ·rw [if_pos c2] at H
  have c2b0 : (a0.toList == ([] : List UInt8)) = true := beq_iff_eq.mpr c2
  have c2b1 : (a0.toList != ([] : List UInt8)) = false := bne_eq_false_iff_eq.mpr c2
  clear c2
  simp only [Option.some.injEq, Prod.mk.injEq] at H
  obtain ⟨rfl, rfl⟩ := H
  go_enter Tryd.func77, Tryd.ntmps77
  go_wp2
  go_ret2
  exact ⟨by first | rfl | (simp; done) | (simp [*]; done), by repeat (first | exact Drawn0.refl _ | apply Drawn0.step)⟩
 ·rw [if_neg c2] at H
  have c2b0 : (a0.toList == ([] : List UInt8)) = false := beq_eq_false_iff_ne.mpr c2
  have c2b1 : (a0.toList != ([] : List UInt8)) = true := bne_iff_ne.mpr c2
  by_cases c3 : 0 < (a0.size : Int)
  ·rw [if_pos c3] at H
   have c3b0 : decide (0 < (a0.size : Int)) = true := decide_eq_true c3
   have c3b1 : decide (0 < a0.size) = true := decide_eq_true (by omega)
   clear c3
   by_cases c5 : (bt a0 0) < 128
   ·rw [if_pos c5] at H
    have c5b0 : decide ((bt a0 0) < 128) = true := decide_eq_true c5
    clear c5
    simp only [Option.some.injEq, Prod.mk.injEq] at H
    obtain ⟨rfl, rfl⟩ := H
    have p4 : 0 ≤ (0 : Int) := (by omega)
    have q4 : 0 < a0.size := (by have : (0 : Int) < (a0.size : Int) := of_decide_eq_true (by first | (with_reducible assumption) | assumption); omega)
    have hx4 : ∀ h : 0 < a0.size, ((a0[0]'h).toNat : Int) = bt a0 0 := bt_at a0 0
    clear p4
    have qi4 : (0 < (a0.size : Int)) = True := eq_true (of_decide_eq_true (by first | (with_reducible assumption) | assumption))
    replace q4 := eq_true q4
    have p6 : 0 ≤ (0 : Int) := (by omega)
    have q6 : 0 < a0.size := (by have : (0 : Int) < (a0.size : Int) := of_decide_eq_true (by first | (with_reducible assumption) | assumption); omega)
    have hx6 : ∀ h : 0 < a0.size, ((a0[0]'h).toNat : Int) = bt a0 0 := bt_at a0 0
    clear p6
    have qi6 : (0 < (a0.size : Int)) = True := eq_true (of_decide_eq_true (by first | (with_reducible assumption) | assumption))
    replace q6 := eq_true q6
    go_enter Tryd.func77, Tryd.ntmps77
    go_wp2
    go_ret2
    exact ⟨by first | rfl | (simp; done) | (simp [*]; done), by repeat (first | exact Drawn0.refl _ | apply Drawn0.step)⟩
   ·rw [if_neg c5] at H
    have c5b0 : decide ((bt a0 0) < 128) = false := decide_eq_false c5
    clear c5
    have HC7 := Aside0.mk H
    clear H
    have p4 : 0 ≤ (0 : Int) := (by omega)
    have q4 : 0 < a0.size := (by have : (0 : Int) < (a0.size : Int) := of_decide_eq_true (by first | (with_reducible assumption) | assumption); omega)
    have hx4 : ∀ h : 0 < a0.size, ((a0[0]'h).toNat : Int) = bt a0 0 := bt_at a0 0
    clear p4
    have qi4 : (0 < (a0.size : Int)) = True := eq_true (of_decide_eq_true (by first | (with_reducible assumption) | assumption))
    replace q4 := eq_true q4
    go_enter Tryd.func77, Tryd.ntmps77
    go_upto_block 0 with (fail)
    go_cut [4, 5, 6] (fun v4 v5 v6 wc => ∃ (kq : Nat) (x4_6 : Int) (x5_6 : Int) (x6_6 : Int), v4 = .int .i64 x4_6 ∧ v5 = .int .i32 x5_6 ∧ v6 = .int .i32 x6_6 ∧ Aside0 (letterlockref1_first.j2 kq a0 x4_6 x5_6 x6_6 = some (r1, r2)) ∧ Aside0 (kq ≤ k) ∧ Drawn0 w wc)
    case first =>
     have H := HC7.out
     clear HC7
     have HC8 := Aside0.mk H
     clear H
     go_upto_region 8 with (fail)
     go_cut [16] (fun v16 wc => ∃ (kq : Nat) (x16_7 : Bool), v16 = .bool x16_7 ∧ Aside0 (letterlockref1_first.j0 kq a0 0 0 0 x16_7 = some (r1, r2)) ∧ Aside0 (kq ≤ k) ∧ Drawn0 w wc)
     case first =>
      have H := HC8.out
      clear HC8
      by_cases c10 : (bt a0 0) ≥ 192
      ·rw [if_pos c10] at H
       have c10b0 : decide (192 ≤ (bt a0 0)) = true := decide_eq_true c10
       clear c10
       (first | rw [c10b0] | (simp only [i64_w, i32_w]; rw [c10b0]) | skip)
       have H' := Aside0.mk H
       clear H
       have p9 : 0 ≤ (0 : Int) := (by omega)
       have q9 : 0 < a0.size := (by have : (0 : Int) < (a0.size : Int) := of_decide_eq_true (by first | (with_reducible assumption) | assumption); omega)
       have hx9 : ∀ h : 0 < a0.size, ((a0[0]'h).toNat : Int) = bt a0 0 := bt_at a0 0
       clear p9
       have qi9 : (0 < (a0.size : Int)) = True := eq_true (of_decide_eq_true (by first | (with_reducible assumption) | assumption))
       replace q9 := eq_true q9
       have p11 : 0 ≤ (0 : Int) := (by omega)
       have q11 : 0 < a0.size := (by have : (0 : Int) < (a0.size : Int) := of_decide_eq_true (by first | (with_reducible assumption) | assumption); omega)
       have hx11 : ∀ h : 0 < a0.size, ((a0[0]'h).toNat : Int) = bt a0 0 := bt_at a0 0
       clear p11
       have qi11 : (0 < (a0.size : Int)) = True := eq_true (of_decide_eq_true (by first | (with_reducible assumption) | assumption))
       replace q11 := eq_true q11
       go_wp2
       go_meet
       case rel => exact ⟨_, (decide ((bt a0 0) < 224)), (by first | rfl | (simp; done) | (simp [*]; done)), H', ⟨by first | omega | exact Nat.le_refl _⟩, by repeat (first | exact Drawn0.refl _ | apply Drawn0.step)⟩
      ·rw [if_neg c10] at H
       have c10b0 : decide (192 ≤ (bt a0 0)) = false := decide_eq_false c10
       clear c10
       (first | rw [c10b0] | (simp only [i64_w, i32_w]; rw [c10b0]) | skip)
       have H' := Aside0.mk H
       clear H
       have p9 : 0 ≤ (0 : Int) := (by omega)
       have q9 : 0 < a0.size := (by have : (0 : Int) < (a0.size : Int) := of_decide_eq_true (by first | (with_reducible assumption) | assumption); omega)
       have hx9 : ∀ h : 0 < a0.size, ((a0[0]'h).toNat : Int) = bt a0 0 := bt_at a0 0
       clear p9
       have qi9 : (0 < (a0.size : Int)) = True := eq_true (of_decide_eq_true (by first | (with_reducible assumption) | assumption))
       replace q9 := eq_true q9
       go_wp2
       go_meet
       case rel => exact ⟨_, (false), (by first | rfl | (simp; done) | (simp [*]; done)), H', ⟨by first | omega | exact Nat.le_refl _⟩, by repeat (first | exact Drawn0.refl _ | apply Drawn0.step)⟩
     case rest =>
      clear HC8
      try clear c1
      try clear p1
      try clear q1
      try clear hx1
      try clear qi1
      try clear c2
      try clear c2b0
      try clear c2b1
      try clear p2
      try clear c3
      try clear c3b0
      try clear c3b1
      try clear p3
      try clear p4
      try clear q4
      try clear hx4
      try clear qi4
      try clear c5
      try clear c5b0
      try clear p6
      try clear q6
      try clear hx6
      try clear qi6
      try clear c7
      try clear p9
      try clear q9
      try clear hx9
      try clear qi9
      try clear c10
      try clear c10b0
      try clear p11
      try clear q11
      try clear hx11
      try clear qi11
      try clear p11
      try clear p4
      try clear p6
      try clear p9
      try clear q11
      try clear q4
      try clear q6
      try clear q9
      obtain ⟨kq, x16_7, rfl, HA, HJ7, ⟨mc7, rfl⟩⟩ := hcut
      cases kq with
      | zero => exact absurd HA.out (by simp [letterlockref1_first.j0])
      | succ kj7 =>
       have H := HA.out
       clear HA
       simp only [letterlockref1_first.j0] at H
       by_cases c12 : x16_7 = true
       ·subst c12
        have H1 : (if 0 < (a0.size : Int) then (letterlockref1_first.j2 kj7 a0 2 (((bt a0 0) - 192) % 256) 128) else (none)) = some (r1, r2) := by rw [if_pos rfl] at H; exact H
        clear H
        have H := H1
        clear H1
        by_cases c13 : 0 < (a0.size : Int)
        ·rw [if_pos c13] at H
         have c13b0 : decide (0 < (a0.size : Int)) = true := decide_eq_true c13
         have c13b1 : decide (0 < a0.size) = true := decide_eq_true (by omega)
         clear c13
         have H' := Aside0.mk H
         clear H
         have p14 : 0 ≤ (0 : Int) := (by omega)
         have q14 : 0 < a0.size := (by have : (0 : Int) < (a0.size : Int) := of_decide_eq_true (by first | (with_reducible assumption) | assumption); omega)
         have hx14 : ∀ h : 0 < a0.size, ((a0[0]'h).toNat : Int) = bt a0 0 := bt_at a0 0
         clear p14
         have qi14 : (0 < (a0.size : Int)) = True := eq_true (of_decide_eq_true (by first | (with_reducible assumption) | assumption))
         replace q14 := eq_true q14
         go_wp2
         go_meet
         case rel => exact ⟨_, (2), (((bt a0 0) - 192) % 256), (128), (by first | rfl | (simp; done) | (simp [*]; done)), (by first | rfl | (simp; done) | (simp [*]; done)), (by first | rfl | (simp; done) | (simp [*]; done)), H', ⟨by have := HJ7.out; first | omega | exact Nat.le_refl _⟩, by repeat (first | exact Drawn0.refl _ | apply Drawn0.step)⟩
        ·rw [if_neg c13] at H
         exact absurd H (by simp)
       ·replace c12 := Bool.eq_false_iff.mpr c12
        subst c12
        have H1 : (if 0 < (a0.size : Int) then (if (bt a0 0) ≥ 224 then (letterlockref1_first.j1 kj7 a0 0 0 0 (decide ((bt a0 0) < 240))) else (letterlockref1_first.j1 kj7 a0 0 0 0 false)) else (none)) = some (r1, r2) := by rw [if_neg (show ¬ (false = true) by decide)] at H; exact H
        clear H
        have H := H1
        clear H1
        have HC15 := Aside0.mk H
        clear H
        go_upto_region 12 with (fail)
        go_cut [29] (fun v29 wc => ∃ (kq : Nat) (x29_14 : Bool), v29 = .bool x29_14 ∧ Aside0 (letterlockref1_first.j1 kq a0 0 0 0 x29_14 = some (r1, r2)) ∧ Aside0 (kq ≤ kj7) ∧ Drawn0 w wc)
        case first =>
         have H := HC15.out
         clear HC15
         by_cases c16 : 0 < (a0.size : Int)
         ·rw [if_pos c16] at H
          have c16b0 : decide (0 < (a0.size : Int)) = true := decide_eq_true c16
          have c16b1 : decide (0 < a0.size) = true := decide_eq_true (by omega)
          clear c16
          (first | rw [c16b0] | (simp only [i64_w, i32_w]; rw [c16b0]) | skip)
          by_cases c18 : (bt a0 0) ≥ 224
          ·rw [if_pos c18] at H
           have c18b0 : decide (224 ≤ (bt a0 0)) = true := decide_eq_true c18
           clear c18
           have H' := Aside0.mk H
           clear H
           have p17 : 0 ≤ (0 : Int) := (by omega)
           have q17 : 0 < a0.size := (by have : (0 : Int) < (a0.size : Int) := of_decide_eq_true (by first | (with_reducible assumption) | assumption); omega)
           have hx17 : ∀ h : 0 < a0.size, ((a0[0]'h).toNat : Int) = bt a0 0 := bt_at a0 0
           clear p17
           have qi17 : (0 < (a0.size : Int)) = True := eq_true (of_decide_eq_true (by first | (with_reducible assumption) | assumption))
           replace q17 := eq_true q17
           have p19 : 0 ≤ (0 : Int) := (by omega)
           have q19 : 0 < a0.size := (by have : (0 : Int) < (a0.size : Int) := of_decide_eq_true (by first | (with_reducible assumption) | assumption); omega)
           have hx19 : ∀ h : 0 < a0.size, ((a0[0]'h).toNat : Int) = bt a0 0 := bt_at a0 0
           clear p19
           have qi19 : (0 < (a0.size : Int)) = True := eq_true (of_decide_eq_true (by first | (with_reducible assumption) | assumption))
           replace q19 := eq_true q19
           go_wp2
           go_meet
           case rel => exact ⟨_, (decide ((bt a0 0) < 240)), (by first | rfl | (simp; done) | (simp [*]; done)), H', ⟨by have := HJ7.out; first | omega | exact Nat.le_refl _⟩, by repeat (first | exact Drawn0.refl _ | apply Drawn0.step)⟩
          ·rw [if_neg c18] at H
           have c18b0 : decide (224 ≤ (bt a0 0)) = false := decide_eq_false c18
           clear c18
           have H' := Aside0.mk H
           clear H
           have p17 : 0 ≤ (0 : Int) := (by omega)
           have q17 : 0 < a0.size := (by have : (0 : Int) < (a0.size : Int) := of_decide_eq_true (by first | (with_reducible assumption) | assumption); omega)
           have hx17 : ∀ h : 0 < a0.size, ((a0[0]'h).toNat : Int) = bt a0 0 := bt_at a0 0
           clear p17
           have qi17 : (0 < (a0.size : Int)) = True := eq_true (of_decide_eq_true (by first | (with_reducible assumption) | assumption))
           replace q17 := eq_true q17
           go_wp2
           go_meet
           case rel => exact ⟨_, (false), (by first | rfl | (simp; done) | (simp [*]; done)), H', ⟨by have := HJ7.out; first | omega | exact Nat.le_refl _⟩, by repeat (first | exact Drawn0.refl _ | apply Drawn0.step)⟩
         ·rw [if_neg c16] at H
          exact absurd H (by simp)
        case rest =>
         clear HC15
         try clear c1
         try clear p1
         try clear q1
         try clear hx1
         try clear qi1
         try clear c2
         try clear c2b0
         try clear c2b1
         try clear p2
         try clear c3
         try clear c3b0
         try clear c3b1
         try clear p3
         try clear p4
         try clear q4
         try clear hx4
         try clear qi4
         try clear c5
         try clear c5b0
         try clear p6
         try clear q6
         try clear hx6
         try clear qi6
         try clear c7
         try clear p9
         try clear q9
         try clear hx9
         try clear qi9
         try clear c10
         try clear c10b0
         try clear p11
         try clear q11
         try clear hx11
         try clear qi11
         try clear c12
         try clear c13
         try clear c13b0
         try clear c13b1
         try clear p14
         try clear q14
         try clear hx14
         try clear qi14
         try clear c16
         try clear c16b0
         try clear c16b1
         try clear p17
         try clear q17
         try clear hx17
         try clear qi17
         try clear c18
         try clear c18b0
         try clear p19
         try clear q19
         try clear hx19
         try clear qi19
         try clear p1
         try clear p11
         try clear p14
         try clear p17
         try clear p19
         try clear p2
         try clear p3
         try clear p4
         try clear p6
         try clear p9
         try clear q1
         try clear q11
         try clear q14
         try clear q17
         try clear q19
         try clear q4
         try clear q6
         try clear q9
         obtain ⟨kq, x29_14, rfl, HA, HJ14, ⟨mc14, rfl⟩⟩ := hcut
         cases kq with
         | zero => exact absurd HA.out (by simp [letterlockref1_first.j1])
         | succ kj14 =>
          have H := HA.out
          clear HA
          simp only [letterlockref1_first.j1] at H
          by_cases c20 : x29_14 = true
          ·subst c20
           have H1 : (if 0 < (a0.size : Int) then (letterlockref1_first.j2 kj14 a0 3 (((bt a0 0) - 224) % 256) 2048) else (none)) = some (r1, r2) := by rw [if_pos rfl] at H; exact H
           clear H
           have H := H1
           clear H1
           by_cases c21 : 0 < (a0.size : Int)
           ·rw [if_pos c21] at H
            have c21b0 : decide (0 < (a0.size : Int)) = true := decide_eq_true c21
            have c21b1 : decide (0 < a0.size) = true := decide_eq_true (by omega)
            clear c21
            have H' := Aside0.mk H
            clear H
            have p22 : 0 ≤ (0 : Int) := (by omega)
            have q22 : 0 < a0.size := (by have : (0 : Int) < (a0.size : Int) := of_decide_eq_true (by first | (with_reducible assumption) | assumption); omega)
            have hx22 : ∀ h : 0 < a0.size, ((a0[0]'h).toNat : Int) = bt a0 0 := bt_at a0 0
            clear p22
            have qi22 : (0 < (a0.size : Int)) = True := eq_true (of_decide_eq_true (by first | (with_reducible assumption) | assumption))
            replace q22 := eq_true q22
            go_wp2
            go_meet
            case rel => exact ⟨_, (3), (((bt a0 0) - 224) % 256), (2048), (by first | rfl | (simp; done) | (simp [*]; done)), (by first | rfl | (simp; done) | (simp [*]; done)), (by first | rfl | (simp; done) | (simp [*]; done)), H', ⟨by have := HJ7.out; have := HJ14.out; first | omega | exact Nat.le_refl _⟩, by repeat (first | exact Drawn0.refl _ | apply Drawn0.step)⟩
           ·rw [if_neg c21] at H
            exact absurd H (by simp)
          ·replace c20 := Bool.eq_false_iff.mpr c20
           subst c20
           have H1 : (if 0 < (a0.size : Int) then (if (bt a0 0) ≥ 240 then (if (bt a0 0) < 248 then (letterlockref1_first.j2 kj14 a0 4 (((bt a0 0) - 240) % 256) 65536) else (letterlockref1_first.j2 kj14 a0 0 0 0)) else (letterlockref1_first.j2 kj14 a0 0 0 0)) else (none)) = some (r1, r2) := by rw [if_neg (show ¬ (false = true) by decide)] at H; exact H
           clear H
           have H := H1
           clear H1
           by_cases c23 : 0 < (a0.size : Int)
           ·rw [if_pos c23] at H
            have c23b0 : decide (0 < (a0.size : Int)) = true := decide_eq_true c23
            have c23b1 : decide (0 < a0.size) = true := decide_eq_true (by omega)
            clear c23
            by_cases c25 : (bt a0 0) ≥ 240
            ·rw [if_pos c25] at H
             have c25b0 : decide (240 ≤ (bt a0 0)) = true := decide_eq_true c25
             clear c25
             by_cases c27 : (bt a0 0) < 248
             ·rw [if_pos c27] at H
              have c27b0 : decide ((bt a0 0) < 248) = true := decide_eq_true c27
              clear c27
              have H' := Aside0.mk H
              clear H
              have p24 : 0 ≤ (0 : Int) := (by omega)
              have q24 : 0 < a0.size := (by have : (0 : Int) < (a0.size : Int) := of_decide_eq_true (by first | (with_reducible assumption) | assumption); omega)
              have hx24 : ∀ h : 0 < a0.size, ((a0[0]'h).toNat : Int) = bt a0 0 := bt_at a0 0
              clear p24
              have qi24 : (0 < (a0.size : Int)) = True := eq_true (of_decide_eq_true (by first | (with_reducible assumption) | assumption))
              replace q24 := eq_true q24
              have p26 : 0 ≤ (0 : Int) := (by omega)
              have q26 : 0 < a0.size := (by have : (0 : Int) < (a0.size : Int) := of_decide_eq_true (by first | (with_reducible assumption) | assumption); omega)
              have hx26 : ∀ h : 0 < a0.size, ((a0[0]'h).toNat : Int) = bt a0 0 := bt_at a0 0
              clear p26
              have qi26 : (0 < (a0.size : Int)) = True := eq_true (of_decide_eq_true (by first | (with_reducible assumption) | assumption))
              replace q26 := eq_true q26
              have p28 : 0 ≤ (0 : Int) := (by omega)
              have q28 : 0 < a0.size := (by have : (0 : Int) < (a0.size : Int) := of_decide_eq_true (by first | (with_reducible assumption) | assumption); omega)
              have hx28 : ∀ h : 0 < a0.size, ((a0[0]'h).toNat : Int) = bt a0 0 := bt_at a0 0
              clear p28
              have qi28 : (0 < (a0.size : Int)) = True := eq_true (of_decide_eq_true (by first | (with_reducible assumption) | assumption))
              replace q28 := eq_true q28
              go_wp2
              go_meet
              case rel => exact ⟨_, (4), (((bt a0 0) - 240) % 256), (65536), (by first | rfl | (simp; done) | (simp [*]; done)), (by first | rfl | (simp; done) | (simp [*]; done)), (by first | rfl | (simp; done) | (simp [*]; done)), H', ⟨by have := HJ7.out; have := HJ14.out; first | omega | exact Nat.le_refl _⟩, by repeat (first | exact Drawn0.refl _ | apply Drawn0.step)⟩
             ·rw [if_neg c27] at H
              have c27b0 : decide ((bt a0 0) < 248) = false := decide_eq_false c27
              clear c27
              have H' := Aside0.mk H
              clear H
              have p24 : 0 ≤ (0 : Int) := (by omega)
              have q24 : 0 < a0.size := (by have : (0 : Int) < (a0.size : Int) := of_decide_eq_true (by first | (with_reducible assumption) | assumption); omega)
              have hx24 : ∀ h : 0 < a0.size, ((a0[0]'h).toNat : Int) = bt a0 0 := bt_at a0 0
              clear p24
              have qi24 : (0 < (a0.size : Int)) = True := eq_true (of_decide_eq_true (by first | (with_reducible assumption) | assumption))
              replace q24 := eq_true q24
              have p26 : 0 ≤ (0 : Int) := (by omega)
              have q26 : 0 < a0.size := (by have : (0 : Int) < (a0.size : Int) := of_decide_eq_true (by first | (with_reducible assumption) | assumption); omega)
              have hx26 : ∀ h : 0 < a0.size, ((a0[0]'h).toNat : Int) = bt a0 0 := bt_at a0 0
              clear p26
              have qi26 : (0 < (a0.size : Int)) = True := eq_true (of_decide_eq_true (by first | (with_reducible assumption) | assumption))
              replace q26 := eq_true q26
              go_wp2
              go_meet
              case rel => exact ⟨_, (0), (0), (0), (by first | rfl | (simp; done) | (simp [*]; done)), (by first | rfl | (simp; done) | (simp [*]; done)), (by first | rfl | (simp; done) | (simp [*]; done)), H', ⟨by have := HJ7.out; have := HJ14.out; first | omega | exact Nat.le_refl _⟩, by repeat (first | exact Drawn0.refl _ | apply Drawn0.step)⟩
            ·rw [if_neg c25] at H
             have c25b0 : decide (240 ≤ (bt a0 0)) = false := decide_eq_false c25
             clear c25
             have H' := Aside0.mk H
             clear H
             have p24 : 0 ≤ (0 : Int) := (by omega)
             have q24 : 0 < a0.size := (by have : (0 : Int) < (a0.size : Int) := of_decide_eq_true (by first | (with_reducible assumption) | assumption); omega)
             have hx24 : ∀ h : 0 < a0.size, ((a0[0]'h).toNat : Int) = bt a0 0 := bt_at a0 0
             clear p24
             have qi24 : (0 < (a0.size : Int)) = True := eq_true (of_decide_eq_true (by first | (with_reducible assumption) | assumption))
             replace q24 := eq_true q24
             go_wp2
             go_meet
             case rel => exact ⟨_, (0), (0), (0), (by first | rfl | (simp; done) | (simp [*]; done)), (by first | rfl | (simp; done) | (simp [*]; done)), (by first | rfl | (simp; done) | (simp [*]; done)), H', ⟨by have := HJ7.out; have := HJ14.out; first | omega | exact Nat.le_refl _⟩, by repeat (first | exact Drawn0.refl _ | apply Drawn0.step)⟩
           ·rw [if_neg c23] at H
            exact absurd H (by simp)
    case rest =>
     clear HC7
     try clear c1
     try clear p1
     try clear q1
     try clear hx1
     try clear qi1
     try clear c2
     try clear c2b0
     try clear c2b1
     try clear p2
     try clear q2
     try clear hx2
     try clear qi2
     try clear c3
     try clear c3b0
     try clear c3b1
     try clear p3
     try clear p4
     try clear q4
     try clear hx4
     try clear qi4
     try clear c5
     try clear c5b0
     try clear p6
     try clear q6
     try clear hx6
     try clear qi6
     try clear c7
     try clear p9
     try clear q9
     try clear hx9
     try clear qi9
     try clear c10
     try clear c10b0
     try clear p11
     try clear q11
     try clear hx11
     try clear qi11
     try clear c12
     try clear c13
     try clear c13b0
     try clear c13b1
     try clear c14
     try clear p14
     try clear q14
     try clear hx14
     try clear qi14
     try clear c16
     try clear c16b0
     try clear c16b1
     try clear p17
     try clear q17
     try clear hx17
     try clear qi17
     try clear c18
     try clear c18b0
     try clear p19
     try clear q19
     try clear hx19
     try clear qi19
     try clear c20
     try clear c21
     try clear c21b0
     try clear c21b1
     try clear p22
     try clear q22
     try clear hx22
     try clear qi22
     try clear c23
     try clear c23b0
     try clear c23b1
     try clear p24
     try clear q24
     try clear hx24
     try clear qi24
     try clear c25
     try clear c25b0
     try clear p26
     try clear q26
     try clear hx26
     try clear qi26
     try clear c27
     try clear c27b0
     try clear p28
     try clear q28
     try clear hx28
     try clear qi28
     try clear p1
     try clear p11
     try clear p14
     try clear p17
     try clear p19
     try clear p2
     try clear p22
     try clear p24
     try clear p26
     try clear p28
     try clear p3
     try clear p4
     try clear p6
     try clear p9
     try clear q1
     try clear q11
     try clear q14
     try clear q17
     try clear q19
     try clear q22
     try clear q24
     try clear q26
     try clear q28
     try clear q4
     try clear q6
     try clear q9
     obtain ⟨kq, x4_6, x5_6, x6_6, rfl, rfl, rfl, HA, HJ6, ⟨mc6, rfl⟩⟩ := hcut
     cases kq with
     | zero => exact absurd HA.out (by simp [letterlockref1_first.j2])
     | succ kj6 =>
      have H := HA.out
      clear HA
      simp only [letterlockref1_first.j2] at H
      have HC29 := Aside0.mk H
      clear H
      go_upto_region 20 with (fail)
      go_cut [62] (fun v62 wc => ∃ (kq : Nat) (x62_28 : Bool), v62 = .bool x62_28 ∧ Aside0 (letterlockref1_first.j3 kq a0 x4_6 x5_6 x6_6 x62_28 = some (r1, r2)) ∧ Aside0 (kq ≤ kj6) ∧ Drawn0 w wc)
      case first =>
       have H := HC29.out
       clear HC29
       by_cases c30 : x4_6 = 0
       ·rw [if_pos c30] at H
        have c30b0 : (x4_6 == 0) = true := beq_iff_eq.mpr c30
        have c30b1 : (x4_6 != 0) = false := bne_eq_false_iff_eq.mpr c30
        clear c30
        (first | rw [c30b0] | (simp only [i64_w, i32_w]; rw [c30b0]) | skip)
        have H' := Aside0.mk H
        clear H
        go_wp2
        go_meet
        case rel => exact ⟨_, (true), (by first | rfl | (simp; done) | (simp [*]; done)), H', ⟨by have := HJ6.out; first | omega | exact Nat.le_refl _⟩, by repeat (first | exact Drawn0.refl _ | apply Drawn0.step)⟩
       ·rw [if_neg c30] at H
        have c30b0 : (x4_6 == 0) = false := beq_eq_false_iff_ne.mpr c30
        have c30b1 : (x4_6 != 0) = true := bne_iff_ne.mpr c30
        (first | rw [c30b0] | (simp only [i64_w, i32_w]; rw [c30b0]) | skip)
        have H' := Aside0.mk H
        clear H
        go_wp2
        go_meet
        case rel => exact ⟨_, (decide ((a0.size : Int) < x4_6)), (by first | rfl | (simp; done) | (simp [*]; done)), H', ⟨by have := HJ6.out; first | omega | exact Nat.le_refl _⟩, by repeat (first | exact Drawn0.refl _ | apply Drawn0.step)⟩
      case rest =>
       clear HC29
       try clear c1
       try clear p1
       try clear q1
       try clear hx1
       try clear qi1
       try clear c2
       try clear c2b0
       try clear c2b1
       try clear p2
       try clear q2
       try clear hx2
       try clear qi2
       try clear c3
       try clear c3b0
       try clear c3b1
       try clear p3
       try clear p4
       try clear q4
       try clear hx4
       try clear qi4
       try clear c5
       try clear c5b0
       try clear c6
       try clear p6
       try clear q6
       try clear hx6
       try clear qi6
       try clear c7
       try clear p9
       try clear q9
       try clear hx9
       try clear qi9
       try clear c10
       try clear c10b0
       try clear p11
       try clear q11
       try clear hx11
       try clear qi11
       try clear c12
       try clear c13
       try clear c13b0
       try clear c13b1
       try clear c14
       try clear p14
       try clear q14
       try clear hx14
       try clear qi14
       try clear c16
       try clear c16b0
       try clear c16b1
       try clear p17
       try clear q17
       try clear hx17
       try clear qi17
       try clear c18
       try clear c18b0
       try clear p19
       try clear q19
       try clear hx19
       try clear qi19
       try clear c20
       try clear c21
       try clear c21b0
       try clear c21b1
       try clear p22
       try clear q22
       try clear hx22
       try clear qi22
       try clear c23
       try clear c23b0
       try clear c23b1
       try clear p24
       try clear q24
       try clear hx24
       try clear qi24
       try clear c25
       try clear c25b0
       try clear p26
       try clear q26
       try clear hx26
       try clear qi26
       try clear c27
       try clear c27b0
       try clear p28
       try clear q28
       try clear hx28
       try clear qi28
       try clear c30
       try clear c30b0
       try clear c30b1
       try clear p1
       try clear p11
       try clear p14
       try clear p17
       try clear p19
       try clear p2
       try clear p22
       try clear p24
       try clear p26
       try clear p28
       try clear p3
       try clear p4
       try clear p6
       try clear p9
       try clear q1
       try clear q11
       try clear q14
       try clear q17
       try clear q19
       try clear q2
       try clear q22
       try clear q24
       try clear q26
       try clear q28
       try clear q4
       try clear q6
       try clear q9
       obtain ⟨kq, x62_28, rfl, HA, HJ28, ⟨mc28, rfl⟩⟩ := hcut
       cases kq with
       | zero => exact absurd HA.out (by simp [letterlockref1_first.j3])
       | succ kj28 =>
        have H := HA.out
        clear HA
        simp only [letterlockref1_first.j3] at H
        by_cases c31 : x62_28 = true
        ·subst c31
         have H1 : (some (0, 0)) = some (r1, r2) := by rw [if_pos rfl] at H; exact H
         clear H
         have H := H1
         clear H1
         simp only [Option.some.injEq, Prod.mk.injEq] at H
         obtain ⟨rfl, rfl⟩ := H
         go_wp2
         go_ret2
         exact ⟨by first | rfl | (simp; done) | (simp [*]; done), by repeat (first | exact Drawn0.refl _ | apply Drawn0.step)⟩
        ·replace c31 := Bool.eq_false_iff.mpr c31
         subst c31
         have H1 : (letterlockref1_first.l0 kj28 a0 x4_6 x5_6 x6_6 1) = some (r1, r2) := by rw [if_neg (show ¬ (false = true) by decide)] at H; exact H
         clear H
         have H := H1
         clear H1
         have H' := Aside0.mk H
         clear H
         go_wp2
         go_loopg [5, 7] kj28 (fun kq v5 v7 w' => ∃ (x5_3 : Int) (x7_3 : Int), v5 = .int .i32 x5_3 ∧ v7 = .int .i64 x7_3 ∧ Aside0 (letterlockref1_first.l0 kq a0 x4_6 x5_3 x6_6 x7_3 = some (r1, r2)) ∧ Aside0 (kq ≤ kj28) ∧ Drawn0 w w')
         case atStart => exact ⟨(x5_6), (1), (by first | rfl | (simp; done) | (simp [*]; done)), (by first | rfl | (simp; done) | (simp [*]; done)), H', ⟨Nat.le_refl _⟩, by repeat (first | exact Drawn0.refl _ | apply Drawn0.step)⟩
         case round =>
          clear H'
          try clear c1
          try clear p1
          try clear q1
          try clear hx1
          try clear qi1
          try clear c2
          try clear c2b0
          try clear c2b1
          try clear p2
          try clear q2
          try clear hx2
          try clear qi2
          try clear c3
          try clear c3b0
          try clear c3b1
          try clear p3
          try clear p4
          try clear q4
          try clear hx4
          try clear qi4
          try clear c5
          try clear c5b0
          try clear c6
          try clear p6
          try clear q6
          try clear hx6
          try clear qi6
          try clear c7
          try clear p9
          try clear q9
          try clear hx9
          try clear qi9
          try clear c10
          try clear c10b0
          try clear p11
          try clear q11
          try clear hx11
          try clear qi11
          try clear c12
          try clear c13
          try clear c13b0
          try clear c13b1
          try clear c14
          try clear p14
          try clear q14
          try clear hx14
          try clear qi14
          try clear c16
          try clear c16b0
          try clear c16b1
          try clear p17
          try clear q17
          try clear hx17
          try clear qi17
          try clear c18
          try clear c18b0
          try clear p19
          try clear q19
          try clear hx19
          try clear qi19
          try clear c20
          try clear c21
          try clear c21b0
          try clear c21b1
          try clear p22
          try clear q22
          try clear hx22
          try clear qi22
          try clear c23
          try clear c23b0
          try clear c23b1
          try clear p24
          try clear q24
          try clear hx24
          try clear qi24
          try clear c25
          try clear c25b0
          try clear p26
          try clear q26
          try clear hx26
          try clear qi26
          try clear c27
          try clear c27b0
          try clear c28
          try clear p28
          try clear q28
          try clear hx28
          try clear qi28
          try clear c30
          try clear c30b0
          try clear c30b1
          try clear c31
          try clear p1
          try clear p11
          try clear p14
          try clear p17
          try clear p19
          try clear p2
          try clear p22
          try clear p24
          try clear p26
          try clear p28
          try clear p3
          try clear p4
          try clear p6
          try clear p9
          try clear q1
          try clear q11
          try clear q14
          try clear q17
          try clear q19
          try clear q2
          try clear q22
          try clear q24
          try clear q26
          try clear q28
          try clear q4
          try clear q6
          try clear q9
          obtain ⟨x5_3, x7_3, rfl, rfl, HA, HK3, ⟨m3, rfl⟩⟩ := hrel
          cases gk with
          | zero => exact absurd HA.out (by simp [letterlockref1_first.l0])
          | succ k3 =>
           have H := HA.out
           clear HA
           simp only [letterlockref1_first.l0] at H
           by_cases c32 : x7_3 < x4_6
           ·rw [if_pos c32] at H
            have c32b0 : decide (x7_3 < x4_6) = true := decide_eq_true c32
            clear c32
            by_cases c33 : 0 ≤ x7_3
            ·rw [if_pos c33] at H
             have c33b0 : decide (0 ≤ x7_3) = true := decide_eq_true c33
             clear c33
             by_cases c34 : x7_3 < (a0.size : Int)
             ·rw [if_pos c34] at H
              have c34b0 : decide (x7_3 < (a0.size : Int)) = true := decide_eq_true c34
              clear c34
              by_cases c36 : (bt a0 x7_3) < 128
              ·rw [if_pos c36] at H
               have c36b0 : decide ((bt a0 x7_3) < 128) = true := decide_eq_true c36
               clear c36
               simp only [Option.some.injEq, Prod.mk.injEq] at H
               obtain ⟨rfl, rfl⟩ := H
               have p35 : 0 ≤ (x7_3 : Int) := of_decide_eq_true (by first | (with_reducible assumption) | assumption)
               have q35 : x7_3 < (a0.size : Int) := of_decide_eq_true (by first | (with_reducible assumption) | assumption)
               have hx35 := bt_at a0 x7_3
               replace p35 := eq_true p35
               replace q35 := eq_true q35
               go_wp2
               go_ret2
               exact ⟨by first | rfl | (simp; done) | (simp [*]; done), by repeat (first | exact Drawn0.refl _ | apply Drawn0.step)⟩
              ·rw [if_neg c36] at H
               have c36b0 : decide ((bt a0 x7_3) < 128) = false := decide_eq_false c36
               clear c36
               by_cases c38 : (bt a0 x7_3) > 191
               ·rw [if_pos c38] at H
                have c38b0 : decide (191 < (bt a0 x7_3)) = true := decide_eq_true c38
                clear c38
                simp only [Option.some.injEq, Prod.mk.injEq] at H
                obtain ⟨rfl, rfl⟩ := H
                have p35 : 0 ≤ (x7_3 : Int) := of_decide_eq_true (by first | (with_reducible assumption) | assumption)
                have q35 : x7_3 < (a0.size : Int) := of_decide_eq_true (by first | (with_reducible assumption) | assumption)
                have hx35 := bt_at a0 x7_3
                replace p35 := eq_true p35
                replace q35 := eq_true q35
                have p37 : 0 ≤ (x7_3 : Int) := of_decide_eq_true (by first | (with_reducible assumption) | assumption)
                have q37 : x7_3 < (a0.size : Int) := of_decide_eq_true (by first | (with_reducible assumption) | assumption)
                have hx37 := bt_at a0 x7_3
                replace p37 := eq_true p37
                replace q37 := eq_true q37
                go_wp2
                go_ret2
                exact ⟨by first | rfl | (simp; done) | (simp [*]; done), by repeat (first | exact Drawn0.refl _ | apply Drawn0.step)⟩
               ·rw [if_neg c38] at H
                have c38b0 : decide (191 < (bt a0 x7_3)) = false := decide_eq_false c38
                clear c38
                have H' := Aside0.mk H
                clear H
                have p35 : 0 ≤ (x7_3 : Int) := of_decide_eq_true (by first | (with_reducible assumption) | assumption)
                have q35 : x7_3 < (a0.size : Int) := of_decide_eq_true (by first | (with_reducible assumption) | assumption)
                have hx35 := bt_at a0 x7_3
                replace p35 := eq_true p35
                replace q35 := eq_true q35
                have p37 : 0 ≤ (x7_3 : Int) := of_decide_eq_true (by first | (with_reducible assumption) | assumption)
                have q37 : x7_3 < (a0.size : Int) := of_decide_eq_true (by first | (with_reducible assumption) | assumption)
                have hx37 := bt_at a0 x7_3
                replace p37 := eq_true p37
                replace q37 := eq_true q37
                have p39 : 0 ≤ (x7_3 : Int) := of_decide_eq_true (by first | (with_reducible assumption) | assumption)
                have q39 : x7_3 < (a0.size : Int) := of_decide_eq_true (by first | (with_reducible assumption) | assumption)
                have hx39 := bt_at a0 x7_3
                replace p39 := eq_true p39
                replace q39 := eq_true q39
                go_wp2
                go_roundg k3
                case measure => have := HJ6.out; have := HJ28.out; have := HK3.out; omega
                case rel => exact ⟨(wrap32 ((wrap32 (64 * x5_3)) + (((bt a0 x7_3) - 128) % 256))), (wrap64 (x7_3 + 1)), (by first | rfl | (simp; done) | (simp [*]; done)), (by first | rfl | (simp; done) | (simp [*]; done)), H', ⟨by have := HJ6.out; have := HJ28.out; have := HK3.out; omega⟩, by repeat (first | exact Drawn0.refl _ | apply Drawn0.step)⟩
             ·rw [if_neg c34] at H
              exact absurd H (by simp)
            ·rw [if_neg c33] at H
             exact absurd H (by simp)
           ·rw [if_neg c32] at H
            have c32b0 : decide (x7_3 < x4_6) = false := decide_eq_false c32
            clear c32
            by_cases c40 : x5_3 < x6_6
            ·rw [if_pos c40] at H
             have c40b0 : decide (x5_3 < x6_6) = true := decide_eq_true c40
             clear c40
             simp only [Option.some.injEq, Prod.mk.injEq] at H
             obtain ⟨rfl, rfl⟩ := H
             go_wp2
             go_ret2
             exact ⟨by first | rfl | (simp; done) | (simp [*]; done), by repeat (first | exact Drawn0.refl _ | apply Drawn0.step)⟩
            ·rw [if_neg c40] at H
             have c40b0 : decide (x5_3 < x6_6) = false := decide_eq_false c40
             clear c40
             replace H := Option.bind_eq_some_iff.mp H
             obtain ⟨t156, A410, H⟩ := H
             replace H : (if t156 = true then (some (x5_3, x4_6)) else (some (0, 0))) = some (r1, r2) := H
             have A41 := Aside0.mk A410
             clear A410
             by_cases c42 : t156 = true
             ·subst c42
              have H1 : (some (x5_3, x4_6)) = some (r1, r2) := by rw [if_pos rfl] at H; exact H
              clear H
              have H := H1
              clear H1
              simp only [Option.some.injEq, Prod.mk.injEq] at H
              obtain ⟨rfl, rfl⟩ := H
              go_wp2_with (first | (go_at_call 84; (with_reducible refine (letterlockref1_valid.calls x5_3 true _ A41.out).mono ?_); rintro e w' ⟨rfl, ⟨nd, rfl⟩⟩))
              go_ret2
              exact ⟨by first | rfl | (simp; done) | (simp [*]; done), by repeat (first | exact Drawn0.refl _ | apply Drawn0.step)⟩
             ·replace c42 := Bool.eq_false_iff.mpr c42
              subst c42
              have H1 : (some (0, 0)) = some (r1, r2) := by rw [if_neg (show ¬ (false = true) by decide)] at H; exact H
              clear H
              have H := H1
              clear H1
              simp only [Option.some.injEq, Prod.mk.injEq] at H
              obtain ⟨rfl, rfl⟩ := H
              go_wp2_with (first | (go_at_call 84; (with_reducible refine (letterlockref1_valid.calls x5_3 false _ A41.out).mono ?_); rintro e w' ⟨rfl, ⟨nd, rfl⟩⟩))
              go_ret2
              exact ⟨by first | rfl | (simp; done) | (simp [*]; done), by repeat (first | exact Drawn0.refl _ | apply Drawn0.step)⟩
  ·rw [if_neg c3] at H
   exact absurd H (by simp)
end Go.Proofs.YtfhanoloaejmkaaDoor.PA
end
section

namespace Go.Proofs.YtfhanoloaejmkaaDoor.PA
open Go.RowKit Go.Proofs.YtfhanoloaejmkaaDoorW.PrintWords Go.Proofs.YtfhanoloaejmkaaDoorW.PrintLast Go.Proofs.YtfhanoloaejmkaaDoorW.PrintMore
attribute [local go_sem] max2_int min2_int max_two min_two max_three min_three max_four min_four   -- for this text's walks alone
set_option linter.unusedVariables false
set_option linter.unusedSimpArgs false
def letterlockref1_Runes.l0 : Nat → ByteArray → List Int → Option (List Int × Int)
 | 0, _, _ => none
 | k + 1, x0, x4 => if x0.toList = ([] : List UInt8) then (some (x4, 0)) else ((letterlockref1_first.f k x0).bind fun bt157 => (if bt157.2 = 0 then (some (([] : List Int), 2)) else (if x4.length < 35184372088832 then (if 0 ≤ bt157.2 then (if bt157.2 ≤ (x0.size : Int) then (letterlockref1_Runes.l0 k (x0.extract (bt157.2 : Int).toNat x0.size) (x4 ++ [bt157.1])) else (none)) else (none)) else (none))))
def letterlockref1_Runes.f (k : Nat) (a0 : ByteArray) : Option (List Int × Int) := letterlockref1_Runes.l0 k a0 ([] : List Int)
set_option maxHeartbeats 8000000 in
set_option maxRecDepth 100000 in
theorem letterlockref1_Runes.calls (k : Nat) (a0 : ByteArray) (r1 : List Int) (r2 : Int) (w : World) (h : letterlockref1_Runes.f k a0 = some (r1, r2)) :
  Calls Tryd.prog 68 #[.string a0] w fun e w' => ∃ v0_ : Value, e = .returned (.tuple #[v0_, .int .i64 r2]) ∧ Kd.R (Kd.int .i32) 21 w' w.heap.size (fun _ => True) v0_ r1 ∧ Below w.heap.size w w' := by
 have HB := Aside0.mk (Below.refl w.heap.size w)
 have H : (letterlockref1_Runes.l0 k a0 ([] : List Int)) = some (r1, r2) := h
 clear h
 have H' := Aside0.mk H
 clear H
 go_enter Tryd.func68, Tryd.ntmps68
 go_wp2
 go_loopg [0, 4] k (fun kq v0 v4 w' => ∃ (x0_1 : ByteArray) (x4_1 : List Int), v0 = .string x0_1 ∧ Aside0 (letterlockref1_Runes.l0 kq x0_1 x4_1 = some (r1, r2)) ∧ Aside0 (kq ≤ k) ∧ Aside0 (Kd.R (Kd.int .i32) 21 w' w.heap.size (fun _ => True) v4 x4_1) ∧ Aside0 (Below w.heap.size w w'))
 case atStart => exact ⟨(a0), (([] : List Int)), (by first | rfl | (simp; done) | (simp [*]; done)), H', ⟨Nat.le_refl _⟩, ⟨by first | exact Kd.R_nil _ _ _ _ _ | exact Kd.N_nil _ _ _ _ _ | exact Kd.V_nil _ _ _ _ _ | exact Kd.Q_nil _ _ _ _ _ | exact Kd.S_nil _ _ _ _ _⟩, ⟨by repeat (first | (with_reducible first | exact HB.out | apply below_alloc | apply pw_below_drewN | apply below_drew1) | exact HB.out)⟩⟩
 case round =>
  clear H'
  obtain ⟨x0_1, x4_1, rfl, HA, HK1, HO_4, HB⟩ := hrel
  cases gk with
  | zero => exact absurd HA.out (by simp [letterlockref1_Runes.l0])
  | succ k1 =>
   have H := HA.out
   clear HA
   simp only [letterlockref1_Runes.l0] at H
   by_cases c2 : x0_1.toList = ([] : List UInt8)
   ·rw [if_pos c2] at H
    have c2b0 : (x0_1.toList == ([] : List UInt8)) = true := beq_iff_eq.mpr c2
    have c2b1 : (x0_1.toList != ([] : List UInt8)) = false := bne_eq_false_iff_eq.mpr c2
    clear c2
    simp only [Option.some.injEq, Prod.mk.injEq] at H
    obtain ⟨rfl, rfl⟩ := H
    go_wp2
    go_ret2
    exact ⟨_, by first | rfl | (simp [errW_none, errW_some] <;> rfl) | (simp [*, errW_none, errW_some] <;> rfl), by (with_reducible repeat (first | apply Kd.R_alloc | apply Kd.R_drewN | apply Kd.R_drew)); exact HO_4.out, by repeat (first | (with_reducible first | exact HB.out | apply below_alloc | apply pw_below_drewN | apply below_drew1) | exact HB.out)⟩
   ·rw [if_neg c2] at H
    have c2b0 : (x0_1.toList == ([] : List UInt8)) = false := beq_eq_false_iff_ne.mpr c2
    have c2b1 : (x0_1.toList != ([] : List UInt8)) = true := bne_iff_ne.mpr c2
    replace H := Option.bind_eq_some_iff.mp H
    obtain ⟨⟨t157, t158⟩, A30, H⟩ := H
    replace H : (if t158 = 0 then (some (([] : List Int), 2)) else (if x4_1.length < 35184372088832 then (if 0 ≤ t158 then (if t158 ≤ (x0_1.size : Int) then (letterlockref1_Runes.l0 k1 (x0_1.extract (t158 : Int).toNat x0_1.size) (x4_1 ++ [t157])) else (none)) else (none)) else (none))) = some (r1, r2) := H
    have A3 := Aside0.mk A30
    clear A30
    by_cases c4 : t158 = 0
    ·rw [if_pos c4] at H
     have c4b0 : (t158 == 0) = true := beq_iff_eq.mpr c4
     have c4b1 : (t158 != 0) = false := bne_eq_false_iff_eq.mpr c4
     clear c4
     simp only [Option.some.injEq, Prod.mk.injEq] at H
     obtain ⟨rfl, rfl⟩ := H
     go_wp2_with (first | ((with_reducible refine gate_callee (f := 77) rfl ?_); refine goesL_ (some 11) rfl rfl Tryd.func77 (by kernel_rfl) rfl #[.string x0_1] rfl (by (try simp only [List.map_toArray, List.map_cons, List.map_nil]); first | done | rfl | (simp only [List.length_drop, List.length_take]; rfl)) ?_; (with_reducible refine (letterlockref1_first.calls k1 x0_1 t157 t158 _ A3.out).mono ?_); rintro e w' ⟨rfl, ⟨nd, rfl⟩⟩; refine ⟨_, rfl, ?_⟩))
     go_ret2
     exact ⟨_, by first | rfl | (simp [errW_none, errW_some] <;> rfl) | (simp [*, errW_none, errW_some] <;> rfl), by first | exact Kd.R_nil _ _ _ _ _ | exact Kd.N_nil _ _ _ _ _ | exact Kd.V_nil _ _ _ _ _ | exact Kd.Q_nil _ _ _ _ _ | exact Kd.S_nil _ _ _ _ _, by repeat (first | (with_reducible first | exact HB.out | apply below_alloc | apply pw_below_drewN | apply below_drew1) | exact HB.out)⟩
    ·rw [if_neg c4] at H
     have c4b0 : (t158 == 0) = false := beq_eq_false_iff_ne.mpr c4
     have c4b1 : (t158 != 0) = true := bne_iff_ne.mpr c4
     by_cases c5 : x4_1.length < 35184372088832
     ·rw [if_pos c5] at H
      have LMc5 := Aside0.mk c5
      clear c5
      obtain ⟨y159, hy159⟩ : ∃ y_ : List Int, y_ = (x4_1 ++ [t157]) := ⟨_, rfl⟩
      replace H : (if 0 ≤ t158 then (if t158 ≤ (x0_1.size : Int) then (letterlockref1_Runes.l0 k1 (x0_1.extract (t158 : Int).toNat x0_1.size) y159) else (none)) else (none)) = some (r1, r2) := by first | (rw [hy159]; with_reducible exact H) | (have H2_ := (Option.bind_some _ _).symm.trans H; rw [hy159]; with_reducible exact H2_) | (have H2_ := (Option.bind_some _ _).symm.trans H; with_reducible exact H2_) | with_reducible exact H | (rw [hy159]; exact H) | exact H
      have Ny159 := Aside0.mk hy159
      clear hy159
      by_cases c6 : 0 ≤ t158
      ·rw [if_pos c6] at H
       have c6b0 := eq_true c6
       have c6b1 : decide (0 ≤ t158) = true := decide_eq_true c6
       clear c6
       by_cases c7 : t158 ≤ (x0_1.size : Int)
       ·rw [if_pos c7] at H
        have c7b0 := eq_true c7
        have c7b1 : decide (t158 ≤ (x0_1.size : Int)) = true := decide_eq_true c7
        clear c7
        have H' := Aside0.mk H
        clear H
        go_wp2_with (first | ((with_reducible refine gate_callee (f := 77) rfl ?_); refine goesL_ (some 11) rfl rfl Tryd.func77 (by kernel_rfl) rfl #[.string x0_1] rfl (by (try simp only [List.map_toArray, List.map_cons, List.map_nil]); first | done | rfl | (simp only [List.length_drop, List.length_take]; rfl)) ?_; (with_reducible refine (letterlockref1_first.calls k1 x0_1 t157 t158 _ A3.out).mono ?_); rintro e w' ⟨rfl, ⟨nd, rfl⟩⟩; refine ⟨_, rfl, ?_⟩) | ((with_reducible refine gate_builtin (b := .append) (xs := #[.tmp 16, .tmp 18]) rfl ?_); at_builtin; refine Kd.R_append (Kd.int .i32) (w0 := w) w.heap.size rfl (.tmp 16) (.tmp 18) 93 21 (.int .i32 0) 4 rfl Tryd.underlying93 info21 rfl (by decide) (by omega) u4 x4_1 t157 [.int .i32 t157] (fun _ => True) (fun _ => False) rfl rfl ?aP (fun _ hk => hk.elim) ?aF ?aO ?aB ?aS ?aL ?_; (case aP => exact rfl); (case aB => exact (by repeat (first | (with_reducible first | exact HB.out | apply below_alloc | apply pw_below_drewN | apply below_drew1) | exact HB.out))); (case aF => exact (fun _ _ => trivial)); (case aO => exact (by (with_reducible repeat (first | apply Kd.R_alloc | apply Kd.R_drewN | apply Kd.R_drew)); exact HO_4.out)); (case aS => exact (below_size (by repeat (first | (with_reducible first | exact HB.out | apply below_alloc | apply pw_below_drewN | apply below_drew1) | exact HB.out)))); (case aL => have := LMc5.out; omega); intro v160 w8 ho hb hg hat; rw [← Ny159.out] at ho; have n0_ := Aside0.mk (hb); have n1_ := Aside0.mk (ho); clear HB; clear HO_4; have HB := n0_; have HO161 := n1_; clear n0_ n1_; clear ho hb hg hat))
        go_roundg k1
        case measure => have := HK1.out; omega
        case rel => exact ⟨(x0_1.extract (t158 : Int).toNat x0_1.size), (y159), (by first | rfl | (simp; done) | (simp [*]; done)), H', ⟨by have := HK1.out; omega⟩, ⟨by (with_reducible repeat (first | apply Kd.R_alloc | apply Kd.R_drewN | apply Kd.R_drew)); exact HO161.out⟩, ⟨by repeat (first | (with_reducible first | exact HB.out | apply below_alloc | apply pw_below_drewN | apply below_drew1) | exact HB.out)⟩⟩
       ·rw [if_neg c7] at H
        exact absurd H (by simp)
      ·rw [if_neg c6] at H
       exact absurd H (by simp)
     ·rw [if_neg c5] at H
      exact absurd H (by simp)
def letterlockref1_in.f (a0 : Int) (a1 : Int) (a2 : Int) : Option (Bool) := if a0 ≥ a1 then (some (decide (a0 ≤ a2))) else (some false)
set_option maxHeartbeats 8000000 in
set_option maxRecDepth 100000 in
theorem letterlockref1_in.calls (a0 : Int) (a1 : Int) (a2 : Int) (r : Bool) (w : World) (h : letterlockref1_in.f a0 a1 a2 = some r) :
  Calls Tryd.prog 78 #[.int .i32 a0, .int .i32 a1, .int .i32 a2] w fun e w' => e = .returned (.bool r) ∧ Drawn0 w w' := by
 have H : (if a0 ≥ a1 then (some (decide (a0 ≤ a2))) else (some false)) = some r := h
 clear h
 by_cases c4 : a0 ≥ a1
 ·rw [if_pos c4] at H
  have c4b0 : decide (a1 ≤ a0) = true := decide_eq_true c4
  clear c4
  obtain rfl := Option.some.inj H
  go_enter Tryd.func78, Tryd.ntmps78
  go_wp2
  go_ret
  exact ⟨by first | rfl | (simp; done) | (simp [*]; done), by repeat (first | exact Drawn0.refl _ | apply Drawn0.step)⟩
 ·rw [if_neg c4] at H
  have c4b0 : decide (a1 ≤ a0) = false := decide_eq_false c4
  clear c4
  obtain rfl := Option.some.inj H
  go_enter Tryd.func78, Tryd.ntmps78
  go_wp2
  go_ret
  exact ⟨by first | rfl | (simp; done) | (simp [*]; done), by repeat (first | exact Drawn0.refl _ | apply Drawn0.step)⟩
def letterlockref1_letter.f (a0 : Int) : Option (Bool) := (letterlockref1_in.f a0 97 122).bind fun t162 => (if t162 = true then (some true) else ((letterlockref1_in.f a0 48 57).bind fun t163 => (if t163 = true then (some true) else (if a0 = 45 then (some true) else ((letterlockref1_in.f a0 223 246).bind fun t164 => (if t164 = true then (some true) else ((letterlockref1_in.f a0 248 255).bind fun t165 => (if t165 = true then (some true) else ((letterlockref1_in.f a0 945 969).bind fun t166 => (if t166 = true then (some true) else ((letterlockref1_in.f a0 1072 1103).bind fun t167 => (some t167))))))))))))
set_option maxHeartbeats 8000000 in
set_option maxRecDepth 100000 in
theorem letterlockref1_letter.calls (a0 : Int) (r : Bool) (w : World) (h : letterlockref1_letter.f a0 = some r) :
  Calls Tryd.prog 69 #[.int .i32 a0] w fun e w' => e = .returned (.bool r) ∧ Drawn0 w w' := by
 have H : ((letterlockref1_in.f a0 97 122).bind fun t162 => (if t162 = true then (some true) else ((letterlockref1_in.f a0 48 57).bind fun t163 => (if t163 = true then (some true) else (if a0 = 45 then (some true) else ((letterlockref1_in.f a0 223 246).bind fun t164 => (if t164 = true then (some true) else ((letterlockref1_in.f a0 248 255).bind fun t165 => (if t165 = true then (some true) else ((letterlockref1_in.f a0 945 969).bind fun t166 => (if t166 = true then (some true) else ((letterlockref1_in.f a0 1072 1103).bind fun t167 => (some t167))))))))))))) = some r := h
 clear h
 replace H := Option.bind_eq_some_iff.mp H
 obtain ⟨t162, A20, H⟩ := H
 replace H : (if t162 = true then (some true) else ((letterlockref1_in.f a0 48 57).bind fun t163 => (if t163 = true then (some true) else (if a0 = 45 then (some true) else ((letterlockref1_in.f a0 223 246).bind fun t164 => (if t164 = true then (some true) else ((letterlockref1_in.f a0 248 255).bind fun t165 => (if t165 = true then (some true) else ((letterlockref1_in.f a0 945 969).bind fun t166 => (if t166 = true then (some true) else ((letterlockref1_in.f a0 1072 1103).bind fun t167 => (some t167)))))))))))) = some r := H
 have A2 := Aside0.mk A20
 clear A20
 by_cases c3 : t162 = true
 ·subst c3
  have H1 : (some true) = some r := by rw [if_pos rfl] at H; exact H
  clear H
  have H := H1
  clear H1
  obtain rfl := Option.some.inj H
  go_enter Tryd.func69, Tryd.ntmps69
  go_wp2_with (first | ((with_reducible refine gate_callee (f := 78) rfl ?_); refine goesL_ (some 4) rfl rfl Tryd.func78 (by kernel_rfl) rfl #[.int .i32 a0, .int .i32 97, .int .i32 122] rfl (by (try simp only [List.map_toArray, List.map_cons, List.map_nil]); first | done | rfl | (simp only [List.length_drop, List.length_take]; rfl)) ?_; (with_reducible refine (letterlockref1_in.calls a0 97 122 true _ A2.out).mono ?_); rintro e w' ⟨rfl, ⟨nd, rfl⟩⟩; refine ⟨_, rfl, ?_⟩))
  go_ret
  exact ⟨by first | rfl | (simp; done) | (simp [*]; done), by repeat (first | exact Drawn0.refl _ | apply Drawn0.step)⟩
 ·replace c3 := Bool.eq_false_iff.mpr c3
  subst c3
  have H1 : ((letterlockref1_in.f a0 48 57).bind fun t163 => (if t163 = true then (some true) else (if a0 = 45 then (some true) else ((letterlockref1_in.f a0 223 246).bind fun t164 => (if t164 = true then (some true) else ((letterlockref1_in.f a0 248 255).bind fun t165 => (if t165 = true then (some true) else ((letterlockref1_in.f a0 945 969).bind fun t166 => (if t166 = true then (some true) else ((letterlockref1_in.f a0 1072 1103).bind fun t167 => (some t167))))))))))) = some r := by rw [if_neg (show ¬ (false = true) by decide)] at H; exact H
  clear H
  have H := H1
  clear H1
  replace H := Option.bind_eq_some_iff.mp H
  obtain ⟨t163, A40, H⟩ := H
  replace H : (if t163 = true then (some true) else (if a0 = 45 then (some true) else ((letterlockref1_in.f a0 223 246).bind fun t164 => (if t164 = true then (some true) else ((letterlockref1_in.f a0 248 255).bind fun t165 => (if t165 = true then (some true) else ((letterlockref1_in.f a0 945 969).bind fun t166 => (if t166 = true then (some true) else ((letterlockref1_in.f a0 1072 1103).bind fun t167 => (some t167)))))))))) = some r := H
  have A4 := Aside0.mk A40
  clear A40
  by_cases c5 : t163 = true
  ·subst c5
   have H1 : (some true) = some r := by rw [if_pos rfl] at H; exact H
   clear H
   have H := H1
   clear H1
   obtain rfl := Option.some.inj H
   go_enter Tryd.func69, Tryd.ntmps69
   go_wp2_with (first | ((with_reducible refine gate_callee (f := 78) rfl ?_); refine goesL_ (some 4) rfl rfl Tryd.func78 (by kernel_rfl) rfl #[.int .i32 a0, .int .i32 97, .int .i32 122] rfl (by (try simp only [List.map_toArray, List.map_cons, List.map_nil]); first | done | rfl | (simp only [List.length_drop, List.length_take]; rfl)) ?_; (with_reducible refine (letterlockref1_in.calls a0 97 122 false _ A2.out).mono ?_); rintro e w' ⟨rfl, ⟨nd, rfl⟩⟩; refine ⟨_, rfl, ?_⟩) | (go_at_call 78; (with_reducible refine (letterlockref1_in.calls a0 48 57 true _ A4.out).mono ?_); rintro e w' ⟨rfl, ⟨nd, rfl⟩⟩))
   go_ret
   exact ⟨by first | rfl | (simp; done) | (simp [*]; done), by repeat (first | exact Drawn0.refl _ | apply Drawn0.step)⟩
  ·replace c5 := Bool.eq_false_iff.mpr c5
   subst c5
   have H1 : (if a0 = 45 then (some true) else ((letterlockref1_in.f a0 223 246).bind fun t164 => (if t164 = true then (some true) else ((letterlockref1_in.f a0 248 255).bind fun t165 => (if t165 = true then (some true) else ((letterlockref1_in.f a0 945 969).bind fun t166 => (if t166 = true then (some true) else ((letterlockref1_in.f a0 1072 1103).bind fun t167 => (some t167))))))))) = some r := by rw [if_neg (show ¬ (false = true) by decide)] at H; exact H
   clear H
   have H := H1
   clear H1
   by_cases c6 : a0 = 45
   ·rw [if_pos c6] at H
    have c6b0 : (a0 == 45) = true := beq_iff_eq.mpr c6
    have c6b1 : (a0 != 45) = false := bne_eq_false_iff_eq.mpr c6
    clear c6
    obtain rfl := Option.some.inj H
    go_enter Tryd.func69, Tryd.ntmps69
    go_wp2_with (first | ((with_reducible refine gate_callee (f := 78) rfl ?_); refine goesL_ (some 4) rfl rfl Tryd.func78 (by kernel_rfl) rfl #[.int .i32 a0, .int .i32 97, .int .i32 122] rfl (by (try simp only [List.map_toArray, List.map_cons, List.map_nil]); first | done | rfl | (simp only [List.length_drop, List.length_take]; rfl)) ?_; (with_reducible refine (letterlockref1_in.calls a0 97 122 false _ A2.out).mono ?_); rintro e w' ⟨rfl, ⟨nd, rfl⟩⟩; refine ⟨_, rfl, ?_⟩) | (go_at_call 78; (with_reducible refine (letterlockref1_in.calls a0 48 57 false _ A4.out).mono ?_); rintro e w' ⟨rfl, ⟨nd, rfl⟩⟩))
    go_ret
    exact ⟨by first | rfl | (simp; done) | (simp [*]; done), by repeat (first | exact Drawn0.refl _ | apply Drawn0.step)⟩
   ·rw [if_neg c6] at H
    have c6b0 : (a0 == 45) = false := beq_eq_false_iff_ne.mpr c6
    have c6b1 : (a0 != 45) = true := bne_iff_ne.mpr c6
    replace H := Option.bind_eq_some_iff.mp H
    obtain ⟨t164, A70, H⟩ := H
    replace H : (if t164 = true then (some true) else ((letterlockref1_in.f a0 248 255).bind fun t165 => (if t165 = true then (some true) else ((letterlockref1_in.f a0 945 969).bind fun t166 => (if t166 = true then (some true) else ((letterlockref1_in.f a0 1072 1103).bind fun t167 => (some t167))))))) = some r := H
    have A7 := Aside0.mk A70
    clear A70
    by_cases c8 : t164 = true
    ·subst c8
     have H1 : (some true) = some r := by rw [if_pos rfl] at H; exact H
     clear H
     have H := H1
     clear H1
     obtain rfl := Option.some.inj H
     go_enter Tryd.func69, Tryd.ntmps69
     go_wp2_with (first | ((with_reducible refine gate_callee (f := 78) rfl ?_); refine goesL_ (some 4) rfl rfl Tryd.func78 (by kernel_rfl) rfl #[.int .i32 a0, .int .i32 97, .int .i32 122] rfl (by (try simp only [List.map_toArray, List.map_cons, List.map_nil]); first | done | rfl | (simp only [List.length_drop, List.length_take]; rfl)) ?_; (with_reducible refine (letterlockref1_in.calls a0 97 122 false _ A2.out).mono ?_); rintro e w' ⟨rfl, ⟨nd, rfl⟩⟩; refine ⟨_, rfl, ?_⟩) | (go_at_call 78; (with_reducible refine (letterlockref1_in.calls a0 48 57 false _ A4.out).mono ?_); rintro e w' ⟨rfl, ⟨nd, rfl⟩⟩) | (go_at_call 78; (with_reducible refine (letterlockref1_in.calls a0 223 246 true _ A7.out).mono ?_); rintro e w' ⟨rfl, ⟨nd, rfl⟩⟩))
     go_ret
     exact ⟨by first | rfl | (simp; done) | (simp [*]; done), by repeat (first | exact Drawn0.refl _ | apply Drawn0.step)⟩
    ·replace c8 := Bool.eq_false_iff.mpr c8
     subst c8
     have H1 : ((letterlockref1_in.f a0 248 255).bind fun t165 => (if t165 = true then (some true) else ((letterlockref1_in.f a0 945 969).bind fun t166 => (if t166 = true then (some true) else ((letterlockref1_in.f a0 1072 1103).bind fun t167 => (some t167)))))) = some r := by rw [if_neg (show ¬ (false = true) by decide)] at H; exact H
     clear H
     have H := H1
     clear H1
     replace H := Option.bind_eq_some_iff.mp H
     obtain ⟨t165, A90, H⟩ := H
     replace H : (if t165 = true then (some true) else ((letterlockref1_in.f a0 945 969).bind fun t166 => (if t166 = true then (some true) else ((letterlockref1_in.f a0 1072 1103).bind fun t167 => (some t167))))) = some r := H
     have A9 := Aside0.mk A90
     clear A90
     by_cases c10 : t165 = true
     ·subst c10
      have H1 : (some true) = some r := by rw [if_pos rfl] at H; exact H
      clear H
      have H := H1
      clear H1
      obtain rfl := Option.some.inj H
      go_enter Tryd.func69, Tryd.ntmps69
      go_wp2_with (first | ((with_reducible refine gate_callee (f := 78) rfl ?_); refine goesL_ (some 4) rfl rfl Tryd.func78 (by kernel_rfl) rfl #[.int .i32 a0, .int .i32 97, .int .i32 122] rfl (by (try simp only [List.map_toArray, List.map_cons, List.map_nil]); first | done | rfl | (simp only [List.length_drop, List.length_take]; rfl)) ?_; (with_reducible refine (letterlockref1_in.calls a0 97 122 false _ A2.out).mono ?_); rintro e w' ⟨rfl, ⟨nd, rfl⟩⟩; refine ⟨_, rfl, ?_⟩) | (go_at_call 78; (with_reducible refine (letterlockref1_in.calls a0 48 57 false _ A4.out).mono ?_); rintro e w' ⟨rfl, ⟨nd, rfl⟩⟩) | (go_at_call 78; (with_reducible refine (letterlockref1_in.calls a0 223 246 false _ A7.out).mono ?_); rintro e w' ⟨rfl, ⟨nd, rfl⟩⟩) | (go_at_call 78; (with_reducible refine (letterlockref1_in.calls a0 248 255 true _ A9.out).mono ?_); rintro e w' ⟨rfl, ⟨nd, rfl⟩⟩))
      go_ret
      exact ⟨by first | rfl | (simp; done) | (simp [*]; done), by repeat (first | exact Drawn0.refl _ | apply Drawn0.step)⟩
     ·replace c10 := Bool.eq_false_iff.mpr c10
      subst c10
      have H1 : ((letterlockref1_in.f a0 945 969).bind fun t166 => (if t166 = true then (some true) else ((letterlockref1_in.f a0 1072 1103).bind fun t167 => (some t167)))) = some r := by rw [if_neg (show ¬ (false = true) by decide)] at H; exact H
      clear H
      have H := H1
      clear H1
      replace H := Option.bind_eq_some_iff.mp H
      obtain ⟨t166, A110, H⟩ := H
      replace H : (if t166 = true then (some true) else ((letterlockref1_in.f a0 1072 1103).bind fun t167 => (some t167))) = some r := H
      have A11 := Aside0.mk A110
      clear A110
      by_cases c12 : t166 = true
      ·subst c12
       have H1 : (some true) = some r := by rw [if_pos rfl] at H; exact H
       clear H
       have H := H1
       clear H1
       obtain rfl := Option.some.inj H
       go_enter Tryd.func69, Tryd.ntmps69
       go_wp2_with (first | ((with_reducible refine gate_callee (f := 78) rfl ?_); refine goesL_ (some 4) rfl rfl Tryd.func78 (by kernel_rfl) rfl #[.int .i32 a0, .int .i32 97, .int .i32 122] rfl (by (try simp only [List.map_toArray, List.map_cons, List.map_nil]); first | done | rfl | (simp only [List.length_drop, List.length_take]; rfl)) ?_; (with_reducible refine (letterlockref1_in.calls a0 97 122 false _ A2.out).mono ?_); rintro e w' ⟨rfl, ⟨nd, rfl⟩⟩; refine ⟨_, rfl, ?_⟩) | (go_at_call 78; (with_reducible refine (letterlockref1_in.calls a0 48 57 false _ A4.out).mono ?_); rintro e w' ⟨rfl, ⟨nd, rfl⟩⟩) | (go_at_call 78; (with_reducible refine (letterlockref1_in.calls a0 223 246 false _ A7.out).mono ?_); rintro e w' ⟨rfl, ⟨nd, rfl⟩⟩) | (go_at_call 78; (with_reducible refine (letterlockref1_in.calls a0 248 255 false _ A9.out).mono ?_); rintro e w' ⟨rfl, ⟨nd, rfl⟩⟩) | (go_at_call 78; (with_reducible refine (letterlockref1_in.calls a0 945 969 true _ A11.out).mono ?_); rintro e w' ⟨rfl, ⟨nd, rfl⟩⟩))
       go_ret
       exact ⟨by first | rfl | (simp; done) | (simp [*]; done), by repeat (first | exact Drawn0.refl _ | apply Drawn0.step)⟩
      ·replace c12 := Bool.eq_false_iff.mpr c12
       subst c12
       have H1 : ((letterlockref1_in.f a0 1072 1103).bind fun t167 => (some t167)) = some r := by rw [if_neg (show ¬ (false = true) by decide)] at H; exact H
       clear H
       have H := H1
       clear H1
       replace H := Option.bind_eq_some_iff.mp H
       obtain ⟨t167, A130, H⟩ := H
       replace H : (some t167) = some r := H
       have A13 := Aside0.mk A130
       clear A130
       obtain rfl := Option.some.inj H
       go_enter Tryd.func69, Tryd.ntmps69
       go_wp2_with (first | ((with_reducible refine gate_callee (f := 78) rfl ?_); refine goesL_ (some 4) rfl rfl Tryd.func78 (by kernel_rfl) rfl #[.int .i32 a0, .int .i32 97, .int .i32 122] rfl (by (try simp only [List.map_toArray, List.map_cons, List.map_nil]); first | done | rfl | (simp only [List.length_drop, List.length_take]; rfl)) ?_; (with_reducible refine (letterlockref1_in.calls a0 97 122 false _ A2.out).mono ?_); rintro e w' ⟨rfl, ⟨nd, rfl⟩⟩; refine ⟨_, rfl, ?_⟩) | (go_at_call 78; (with_reducible refine (letterlockref1_in.calls a0 48 57 false _ A4.out).mono ?_); rintro e w' ⟨rfl, ⟨nd, rfl⟩⟩) | (go_at_call 78; (with_reducible refine (letterlockref1_in.calls a0 223 246 false _ A7.out).mono ?_); rintro e w' ⟨rfl, ⟨nd, rfl⟩⟩) | (go_at_call 78; (with_reducible refine (letterlockref1_in.calls a0 248 255 false _ A9.out).mono ?_); rintro e w' ⟨rfl, ⟨nd, rfl⟩⟩) | (go_at_call 78; (with_reducible refine (letterlockref1_in.calls a0 945 969 false _ A11.out).mono ?_); rintro e w' ⟨rfl, ⟨nd, rfl⟩⟩) | (go_at_call 78; (with_reducible refine (letterlockref1_in.calls a0 1072 1103 t167 _ A13.out).mono ?_); rintro e w' ⟨rfl, ⟨nd, rfl⟩⟩))
       go_ret
       exact ⟨by first | rfl | (simp; done) | (simp [*]; done), by repeat (first | exact Drawn0.refl _ | apply Drawn0.step)⟩
mutual
def letterlockref1_Right.j0 : Nat → List Int → Bool → Option (Bool)
 | 0, _, _ => none
 | k + 1, x3, x22 => if x22 = true then (some false) else (letterlockref1_Right.l0 k x3 0)
def letterlockref1_Right.l0 : Nat → List Int → Int → Option (Bool)
 | 0, _, _ => none
 | k + 1, x3, x5 => if x5 < (x3.length : Int) then (if 0 ≤ x5 then ((letterlockref1_letter.f (rd x3 x5)).bind fun t173 => (if t173 = true then (letterlockref1_Right.l0 k x3 (wrap64 (x5 + 1))) else (some false))) else (none)) else (some true)
end
def letterlockref1_Right.f (k : Nat) (a0 : ByteArray) : Option (Bool) := (letterlockref1_Runes.f k a0).bind fun bt168 => (if bt168.2 = 0 then (if (bt168.1.length : Int) < 1 then (letterlockref1_Right.j0 k bt168.1 true) else (letterlockref1_Right.j0 k bt168.1 (decide ((bt168.1.length : Int) > 32)))) else (letterlockref1_Right.j0 k bt168.1 true))
set_option maxHeartbeats 8000000 in
set_option maxRecDepth 100000 in
theorem letterlockref1_Right.calls (k : Nat) (a0 : ByteArray) (r : Bool) (w : World) (h : letterlockref1_Right.f k a0 = some r) :
  Calls Tryd.prog 47 #[.string a0] w fun e w' => e = .returned (.bool r) ∧ Below w.heap.size w w' := by
 have HB := Aside0.mk (Below.refl w.heap.size w)
 have H : ((letterlockref1_Runes.f k a0).bind fun bt168 => (if bt168.2 = 0 then (if (bt168.1.length : Int) < 1 then (letterlockref1_Right.j0 k bt168.1 true) else (letterlockref1_Right.j0 k bt168.1 (decide ((bt168.1.length : Int) > 32)))) else (letterlockref1_Right.j0 k bt168.1 true))) = some r := h
 clear h
 replace H := Option.bind_eq_some_iff.mp H
 obtain ⟨⟨t168, t169⟩, A20, H⟩ := H
 replace H : (if t169 = 0 then (if (t168.length : Int) < 1 then (letterlockref1_Right.j0 k t168 true) else (letterlockref1_Right.j0 k t168 (decide ((t168.length : Int) > 32)))) else (letterlockref1_Right.j0 k t168 true)) = some r := H
 have A2 := Aside0.mk A20
 clear A20
 have HC3 := Aside0.mk H
 clear H
 go_enter Tryd.func47, Tryd.ntmps47
 go_upto_region 2 with (first | ((with_reducible refine gate_callee (f := 68) rfl ?_); refine goesL_ (some 8) rfl rfl Tryd.func68 (by kernel_rfl) rfl #[.string a0] rfl (by (try simp only [List.map_toArray, List.map_cons, List.map_nil]); first | done | rfl | (simp only [List.length_drop, List.length_take]; rfl)) ?_; (with_reducible refine (letterlockref1_Runes.calls k a0 t168 t169 _ A2.out).mono ?_); rintro e w4 ⟨v170, rfl, ho0, hb⟩; refine ⟨_, rfl, ?_⟩; have n0_ := Aside0.mk (Kd.R_lower ho0 (below_size (by repeat (first | (with_reducible first | exact HB.out | apply below_alloc | apply pw_below_drewN | apply below_drew1) | exact HB.out)))); have n1_ := Aside0.mk (below_step (by repeat (first | (with_reducible first | exact HB.out | apply below_alloc | apply pw_below_drewN | apply below_drew1) | exact HB.out)) hb); clear HB; have HO171 := n0_; have HB := n1_; clear n0_ n1_; (try clear hb); (try clear hb2); (try clear hk); (try clear hi); (try clear ho0)))
 (try simp only [Act.put, List.setIfInBounds_toArray, List.set_cons_zero, List.set_cons_succ])
 go_cut [22] (fun v22 wc => ∃ (kq : Nat) (x22_2 : Bool), v22 = .bool x22_2 ∧ Aside0 (letterlockref1_Right.j0 kq t168 x22_2 = some r) ∧ Aside0 (kq ≤ k) ∧ Aside0 (Kd.R (Kd.int .i32) 21 wc w.heap.size (fun _ => True) v170 t168) ∧ Aside0 (Below w.heap.size w wc))
 case first =>
  have H := HC3.out
  clear HC3
  by_cases c5 : t169 = 0
  ·rw [if_pos c5] at H
   have c5b0 : (t169 == 0) = true := beq_iff_eq.mpr c5
   have c5b1 : (t169 != 0) = false := bne_eq_false_iff_eq.mpr c5
   clear c5
   (first | rw [c5b0] | (simp only [i64_w, i32_w]; rw [c5b0]) | skip)
   by_cases c6 : (t168.length : Int) < 1
   ·rw [if_pos c6] at H
    have c6b0 : decide ((t168.length : Int) < 1) = true := decide_eq_true c6
    have c6b1 : decide (t168.length < 1) = true := decide_eq_true (by omega)
    clear c6
    have H' := Aside0.mk H
    clear H
    obtain ⟨Ao7, co7, eo7⟩ := Kd.R_slice HO171.out
    subst eo7
    go_wp2
    go_meet
    case rel => exact ⟨_, (true), (by first | rfl | (simp; done) | (simp [*]; done)), H', ⟨by first | omega | exact Nat.le_refl _⟩, ⟨by (with_reducible repeat (first | apply Kd.R_alloc | apply Kd.R_drewN | apply Kd.R_drew)); exact HO171.out⟩, ⟨by repeat (first | (with_reducible first | exact HB.out | apply below_alloc | apply pw_below_drewN | apply below_drew1) | exact HB.out)⟩⟩
   ·rw [if_neg c6] at H
    have c6b0 : decide ((t168.length : Int) < 1) = false := decide_eq_false c6
    have c6b1 : decide (t168.length < 1) = false := decide_eq_false (by omega)
    clear c6
    have H' := Aside0.mk H
    clear H
    obtain ⟨Ao8, co8, eo8⟩ := Kd.R_slice HO171.out
    subst eo8
    go_wp2
    go_meet
    case rel => exact ⟨_, (decide ((t168.length : Int) > 32)), (by first | rfl | (simp; done) | (simp [*]; done)), H', ⟨by first | omega | exact Nat.le_refl _⟩, ⟨by (with_reducible repeat (first | apply Kd.R_alloc | apply Kd.R_drewN | apply Kd.R_drew)); exact HO171.out⟩, ⟨by repeat (first | (with_reducible first | exact HB.out | apply below_alloc | apply pw_below_drewN | apply below_drew1) | exact HB.out)⟩⟩
  ·rw [if_neg c5] at H
   have c5b0 : (t169 == 0) = false := beq_eq_false_iff_ne.mpr c5
   have c5b1 : (t169 != 0) = true := bne_iff_ne.mpr c5
   (first | rw [c5b0] | (simp only [i64_w, i32_w]; rw [c5b0]) | skip)
   have H' := Aside0.mk H
   clear H
   go_wp2
   go_meet
   case rel => exact ⟨_, (true), (by first | rfl | (simp; done) | (simp [*]; done)), H', ⟨by first | omega | exact Nat.le_refl _⟩, ⟨by (with_reducible repeat (first | apply Kd.R_alloc | apply Kd.R_drewN | apply Kd.R_drew)); exact HO171.out⟩, ⟨by repeat (first | (with_reducible first | exact HB.out | apply below_alloc | apply pw_below_drewN | apply below_drew1) | exact HB.out)⟩⟩
 case rest =>
  clear HC3
  try clear p2
  try clear c4
  try clear c5
  try clear c5b0
  try clear c5b1
  try clear c6
  try clear c6b0
  try clear c6b1
  obtain ⟨kq, x22_2, rfl, HA, HJ2, HO_3, HB⟩ := hcut
  cases kq with
  | zero => exact absurd HA.out (by simp [letterlockref1_Right.j0])
  | succ kj2 =>
   have H := HA.out
   clear HA
   simp only [letterlockref1_Right.j0] at H
   by_cases c9 : x22_2 = true
   ·subst c9
    have H1 : (some false) = some r := by rw [if_pos rfl] at H; exact H
    clear H
    have H := H1
    clear H1
    obtain rfl := Option.some.inj H
    go_wp2
    go_ret
    exact ⟨by first | rfl | (simp [errW_none, errW_some] <;> rfl) | (simp [*, errW_none, errW_some] <;> rfl), by repeat (first | (with_reducible first | exact HB.out | apply below_alloc | apply pw_below_drewN | apply below_drew1) | exact HB.out)⟩
   ·replace c9 := Bool.eq_false_iff.mpr c9
    subst c9
    have H1 : (letterlockref1_Right.l0 kj2 t168 0) = some r := by rw [if_neg (show ¬ (false = true) by decide)] at H; exact H
    clear H
    have H := H1
    clear H1
    have H' := Aside0.mk H
    clear H
    go_wp2
    go_loopg [5] kj2 (fun kq v5 w' => ∃ (x5_2 : Int), v5 = .int .i64 x5_2 ∧ Aside0 (letterlockref1_Right.l0 kq t168 x5_2 = some r) ∧ Aside0 (kq ≤ kj2) ∧ Aside0 (Kd.R (Kd.int .i32) 21 w' w.heap.size (fun _ => True) v170 t168) ∧ Aside0 (Below w.heap.size w w'))
    case atStart => exact ⟨(0), (by first | rfl | (simp; done) | (simp [*]; done)), H', ⟨Nat.le_refl _⟩, ⟨by (with_reducible repeat (first | apply Kd.R_alloc | apply Kd.R_drewN | apply Kd.R_drew)); exact HO_3.out⟩, ⟨by repeat (first | (with_reducible first | exact HB.out | apply below_alloc | apply pw_below_drewN | apply below_drew1) | exact HB.out)⟩⟩
    case round =>
     clear H'
     try clear p2
     try clear c4
     try clear c5
     try clear c5b0
     try clear c5b1
     try clear c6
     try clear c6b0
     try clear c6b1
     try clear c9
     try clear p2
     obtain ⟨x5_2, rfl, HA, HK2, HO_3, HB⟩ := hrel
     cases gk with
     | zero => exact absurd HA.out (by simp [letterlockref1_Right.l0])
     | succ k2 =>
      have H := HA.out
      clear HA
      simp only [letterlockref1_Right.l0] at H
      by_cases c10 : x5_2 < (t168.length : Int)
      ·rw [if_pos c10] at H
       have c10b0 : decide (x5_2 < (t168.length : Int)) = true := decide_eq_true c10
       clear c10
       by_cases c11 : 0 ≤ x5_2
       ·rw [if_pos c11] at H
        have c11b0 : decide (0 ≤ x5_2) = true := decide_eq_true c11
        clear c11
        replace H := Option.bind_eq_some_iff.mp H
        obtain ⟨t173, A120, H⟩ := H
        replace H : (if t173 = true then (letterlockref1_Right.l0 k2 t168 (wrap64 (x5_2 + 1))) else (some false)) = some r := H
        have A12 := Aside0.mk A120
        clear A120
        by_cases c13 : t173 = true
        ·subst c13
         have H1 : (letterlockref1_Right.l0 k2 t168 (wrap64 (x5_2 + 1))) = some r := by rw [if_pos rfl] at H; exact H
         clear H
         have H := H1
         clear H1
         have H' := Aside0.mk H
         clear H
         obtain ⟨Ao14, co14, eo14⟩ := Kd.R_slice HO_3.out
         subst eo14
         have p172 : 0 ≤ (x5_2 : Int) := of_decide_eq_true (by first | (with_reducible assumption) | assumption)
         have q172 : x5_2 < (t168.length : Int) := of_decide_eq_true (by first | (with_reducible assumption) | assumption)
         obtain ⟨ad172, e172, hx172_0⟩ := Kd.at_int (Kd.R_reads' HO_3.out).2.2 x5_2 p172 q172
         cases e172
         replace p172 := eq_true p172
         replace q172 := eq_true q172
         go_wp2_with (first | ((with_reducible refine gate_callee (f := 69) rfl ?_); refine goesL_ (some 33) rfl rfl Tryd.func69 (by kernel_rfl) rfl #[.int .i32 (rd t168 x5_2)] rfl (by (try simp only [List.map_toArray, List.map_cons, List.map_nil]); first | done | rfl | (simp only [List.length_drop, List.length_take]; rfl)) ?_; (with_reducible refine (letterlockref1_letter.calls (rd t168 x5_2) true _ A12.out).mono ?_); rintro e w' ⟨rfl, ⟨nd, rfl⟩⟩; refine ⟨_, rfl, ?_⟩))
         go_roundg k2
         case measure => have := HJ2.out; have := HK2.out; omega
         case rel => exact ⟨(wrap64 (x5_2 + 1)), (by first | rfl | (simp; done) | (simp [*]; done)), H', ⟨by have := HJ2.out; have := HK2.out; omega⟩, ⟨by (with_reducible repeat (first | apply Kd.R_alloc | apply Kd.R_drewN | apply Kd.R_drew)); exact HO_3.out⟩, ⟨by repeat (first | (with_reducible first | exact HB.out | apply below_alloc | apply pw_below_drewN | apply below_drew1) | exact HB.out)⟩⟩
        ·replace c13 := Bool.eq_false_iff.mpr c13
         subst c13
         have H1 : (some false) = some r := by rw [if_neg (show ¬ (false = true) by decide)] at H; exact H
         clear H
         have H := H1
         clear H1
         obtain rfl := Option.some.inj H
         obtain ⟨Ao15, co15, eo15⟩ := Kd.R_slice HO_3.out
         subst eo15
         have p172 : 0 ≤ (x5_2 : Int) := of_decide_eq_true (by first | (with_reducible assumption) | assumption)
         have q172 : x5_2 < (t168.length : Int) := of_decide_eq_true (by first | (with_reducible assumption) | assumption)
         obtain ⟨ad172, e172, hx172_0⟩ := Kd.at_int (Kd.R_reads' HO_3.out).2.2 x5_2 p172 q172
         cases e172
         replace p172 := eq_true p172
         replace q172 := eq_true q172
         go_wp2_with (first | ((with_reducible refine gate_callee (f := 69) rfl ?_); refine goesL_ (some 33) rfl rfl Tryd.func69 (by kernel_rfl) rfl #[.int .i32 (rd t168 x5_2)] rfl (by (try simp only [List.map_toArray, List.map_cons, List.map_nil]); first | done | rfl | (simp only [List.length_drop, List.length_take]; rfl)) ?_; (with_reducible refine (letterlockref1_letter.calls (rd t168 x5_2) false _ A12.out).mono ?_); rintro e w' ⟨rfl, ⟨nd, rfl⟩⟩; refine ⟨_, rfl, ?_⟩))
         go_ret
         exact ⟨by first | rfl | (simp [errW_none, errW_some] <;> rfl) | (simp [*, errW_none, errW_some] <;> rfl), by repeat (first | (with_reducible first | exact HB.out | apply below_alloc | apply pw_below_drewN | apply below_drew1) | exact HB.out)⟩
       ·rw [if_neg c11] at H
        exact absurd H (by simp)
      ·rw [if_neg c10] at H
       have c10b0 : decide (x5_2 < (t168.length : Int)) = false := decide_eq_false c10
       clear c10
       obtain rfl := Option.some.inj H
       obtain ⟨Ao16, co16, eo16⟩ := Kd.R_slice HO_3.out
       subst eo16
       go_wp2
       go_ret
       exact ⟨by first | rfl | (simp [errW_none, errW_some] <;> rfl) | (simp [*, errW_none, errW_some] <;> rfl), by repeat (first | (with_reducible first | exact HB.out | apply below_alloc | apply pw_below_drewN | apply below_drew1) | exact HB.out)⟩
mutual
def letterlockref1_Less.l0 : Nat → ByteArray → ByteArray → Int → Option (Bool)
 | 0, _, _, _ => none
 | k + 1, x0, x1, x5 => if x5 < (x0.size : Int) then (letterlockref1_Less.j1 k x0 x1 x5 (decide (x5 < (x1.size : Int)))) else (letterlockref1_Less.j1 k x0 x1 x5 false)
def letterlockref1_Less.j1 : Nat → ByteArray → ByteArray → Int → Bool → Option (Bool)
 | 0, _, _, _, _ => none
 | k + 1, x0, x1, x5, x15 => if x15 = true then (if 0 ≤ x5 then (if x5 < (x0.size : Int) then (if x5 < (x1.size : Int) then (if (bt x0 x5) = (bt x1 x5) then (letterlockref1_Less.l0 k x0 x1 (wrap64 (x5 + 1))) else (some (decide ((bt x0 x5) < (bt x1 x5))))) else (none)) else (none)) else (none)) else (some (decide ((x0.size : Int) < (x1.size : Int))))
end
def letterlockref1_Less.f (k : Nat) (a0 : ByteArray) (a1 : ByteArray) : Option (Bool) := letterlockref1_Less.l0 k a0 a1 0
set_option maxHeartbeats 8000000 in
set_option maxRecDepth 100000 in
theorem letterlockref1_Less.calls (k : Nat) (a0 : ByteArray) (a1 : ByteArray) (r : Bool) (w : World) (h : letterlockref1_Less.f k a0 a1 = some r) :
  Calls Tryd.prog 70 #[.string a0, .string a1] w fun e w' => e = .returned (.bool r) ∧ Drawn0 w w' := by
 have H : (letterlockref1_Less.l0 k a0 a1 0) = some r := h
 clear h
 have H' := Aside0.mk H
 clear H
 go_enter Tryd.func70, Tryd.ntmps70
 go_wp2
 repeat (go_quiet (fail); try go_wp2)
 go_loopg [5] k (fun kq v5 w' => ∃ (x5_1 : Int), v5 = .int .i64 x5_1 ∧ Aside0 (letterlockref1_Less.l0 kq a0 a1 x5_1 = some r) ∧ Aside0 (kq ≤ k) ∧ Drawn0 w w')
 case atStart => exact ⟨(0), (by first | rfl | (simp; done) | (simp [*]; done)), H', ⟨Nat.le_refl _⟩, by repeat (first | exact Drawn0.refl _ | apply Drawn0.step)⟩
 case round =>
  clear H'
  try clear p2
  obtain ⟨x5_1, rfl, HA, HK1, ⟨m1, rfl⟩⟩ := hrel
  cases gk with
  | zero => exact absurd HA.out (by simp [letterlockref1_Less.l0])
  | succ k1 =>
   have H := HA.out
   clear HA
   simp only [letterlockref1_Less.l0] at H
   have HC3 := Aside0.mk H
   clear H
   go_upto_region 2 with (fail)
   repeat (go_quiet (fail); go_upto_region 2 with (fail))
   go_cut [15] (fun v15 wc => ∃ (kq : Nat) (x15_2 : Bool), v15 = .bool x15_2 ∧ Aside0 (letterlockref1_Less.j1 kq a0 a1 x5_1 x15_2 = some r) ∧ Aside0 (kq ≤ k1) ∧ Drawn0 w wc)
   case first =>
    have H := HC3.out
    clear HC3
    by_cases c4 : x5_1 < (a0.size : Int)
    ·rw [if_pos c4] at H
     have c4b0 : decide (x5_1 < (a0.size : Int)) = true := decide_eq_true c4
     clear c4
     (first | rw [c4b0] | (simp only [i64_w, i32_w]; rw [c4b0]) | skip)
     have H' := Aside0.mk H
     clear H
     go_wp2
     repeat (go_quiet (fail); try go_wp2)
     go_meet
     case rel => exact ⟨_, (decide (x5_1 < (a1.size : Int))), (by first | rfl | (simp; done) | (simp [*]; done)), H', ⟨by have := HK1.out; first | omega | exact Nat.le_refl _⟩, by repeat (first | exact Drawn0.refl _ | apply Drawn0.step)⟩
    ·rw [if_neg c4] at H
     have c4b0 : decide (x5_1 < (a0.size : Int)) = false := decide_eq_false c4
     clear c4
     (first | rw [c4b0] | (simp only [i64_w, i32_w]; rw [c4b0]) | skip)
     have H' := Aside0.mk H
     clear H
     go_wp2
     repeat (go_quiet (fail); try go_wp2)
     go_meet
     case rel => exact ⟨_, (false), (by first | rfl | (simp; done) | (simp [*]; done)), H', ⟨by have := HK1.out; first | omega | exact Nat.le_refl _⟩, by repeat (first | exact Drawn0.refl _ | apply Drawn0.step)⟩
   case rest =>
    clear HC3
    try clear p2
    try clear c4
    try clear c4b0
    try clear p2
    obtain ⟨kq, x15_2, rfl, HA, HJ2, ⟨mc2, rfl⟩⟩ := hcut
    cases kq with
    | zero => exact absurd HA.out (by simp [letterlockref1_Less.j1])
    | succ kj2 =>
     have H := HA.out
     clear HA
     simp only [letterlockref1_Less.j1] at H
     by_cases c5 : x15_2 = true
     ·subst c5
      have H1 : (if 0 ≤ x5_1 then (if x5_1 < (a0.size : Int) then (if x5_1 < (a1.size : Int) then (if (bt a0 x5_1) = (bt a1 x5_1) then (letterlockref1_Less.l0 kj2 a0 a1 (wrap64 (x5_1 + 1))) else (some (decide ((bt a0 x5_1) < (bt a1 x5_1))))) else (none)) else (none)) else (none)) = some r := by rw [if_pos rfl] at H; exact H
      clear H
      have H := H1
      clear H1
      by_cases c6 : 0 ≤ x5_1
      ·rw [if_pos c6] at H
       have c6b0 : decide (0 ≤ x5_1) = true := decide_eq_true c6
       clear c6
       by_cases c7 : x5_1 < (a0.size : Int)
       ·rw [if_pos c7] at H
        have c7b0 : decide (x5_1 < (a0.size : Int)) = true := decide_eq_true c7
        clear c7
        by_cases c9 : x5_1 < (a1.size : Int)
        ·rw [if_pos c9] at H
         have c9b0 : decide (x5_1 < (a1.size : Int)) = true := decide_eq_true c9
         clear c9
         by_cases c11 : (bt a0 x5_1) = (bt a1 x5_1)
         ·rw [if_pos c11] at H
          have c11b0 : ((bt a0 x5_1) == (bt a1 x5_1)) = true := beq_iff_eq.mpr c11
          have c11b1 : ((bt a0 x5_1) != (bt a1 x5_1)) = false := bne_eq_false_iff_eq.mpr c11
          clear c11
          have H' := Aside0.mk H
          clear H
          have p8 : 0 ≤ (x5_1 : Int) := of_decide_eq_true (by first | (with_reducible assumption) | assumption)
          have q8 : x5_1 < (a0.size : Int) := of_decide_eq_true (by first | (with_reducible assumption) | assumption)
          have hx8 := bt_at a0 x5_1
          replace p8 := eq_true p8
          replace q8 := eq_true q8
          have p10 : 0 ≤ (x5_1 : Int) := of_decide_eq_true (by first | (with_reducible assumption) | assumption)
          have q10 : x5_1 < (a1.size : Int) := of_decide_eq_true (by first | (with_reducible assumption) | assumption)
          have hx10 := bt_at a1 x5_1
          replace p10 := eq_true p10
          replace q10 := eq_true q10
          go_wp2
          repeat (go_quiet (fail); try go_wp2)
          go_roundg kj2
          case measure => have := HK1.out; have := HJ2.out; omega
          case rel => exact ⟨(wrap64 (x5_1 + 1)), (by first | rfl | (simp; done) | (simp [*]; done)), H', ⟨by have := HK1.out; have := HJ2.out; omega⟩, by repeat (first | exact Drawn0.refl _ | apply Drawn0.step)⟩
         ·rw [if_neg c11] at H
          have c11b0 : ((bt a0 x5_1) == (bt a1 x5_1)) = false := beq_eq_false_iff_ne.mpr c11
          have c11b1 : ((bt a0 x5_1) != (bt a1 x5_1)) = true := bne_iff_ne.mpr c11
          obtain rfl := Option.some.inj H
          have p8 : 0 ≤ (x5_1 : Int) := of_decide_eq_true (by first | (with_reducible assumption) | assumption)
          have q8 : x5_1 < (a0.size : Int) := of_decide_eq_true (by first | (with_reducible assumption) | assumption)
          have hx8 := bt_at a0 x5_1
          replace p8 := eq_true p8
          replace q8 := eq_true q8
          have p10 : 0 ≤ (x5_1 : Int) := of_decide_eq_true (by first | (with_reducible assumption) | assumption)
          have q10 : x5_1 < (a1.size : Int) := of_decide_eq_true (by first | (with_reducible assumption) | assumption)
          have hx10 := bt_at a1 x5_1
          replace p10 := eq_true p10
          replace q10 := eq_true q10
          have p12 : 0 ≤ (x5_1 : Int) := of_decide_eq_true (by first | (with_reducible assumption) | assumption)
          have q12 : x5_1 < (a0.size : Int) := of_decide_eq_true (by first | (with_reducible assumption) | assumption)
          have hx12 := bt_at a0 x5_1
          replace p12 := eq_true p12
          replace q12 := eq_true q12
          have p13 : 0 ≤ (x5_1 : Int) := of_decide_eq_true (by first | (with_reducible assumption) | assumption)
          have q13 : x5_1 < (a1.size : Int) := of_decide_eq_true (by first | (with_reducible assumption) | assumption)
          have hx13 := bt_at a1 x5_1
          replace p13 := eq_true p13
          replace q13 := eq_true q13
          go_wp2
          repeat (go_quiet (fail); try go_wp2)
          go_ret
          exact ⟨by first | rfl | (simp; done) | (simp [*]; done), by repeat (first | exact Drawn0.refl _ | apply Drawn0.step)⟩
        ·rw [if_neg c9] at H
         exact absurd H (by simp)
       ·rw [if_neg c7] at H
        exact absurd H (by simp)
      ·rw [if_neg c6] at H
       exact absurd H (by simp)
     ·replace c5 := Bool.eq_false_iff.mpr c5
      subst c5
      have H1 : (some (decide ((a0.size : Int) < (a1.size : Int)))) = some r := by rw [if_neg (show ¬ (false = true) by decide)] at H; exact H
      clear H
      have H := H1
      clear H1
      obtain rfl := Option.some.inj H
      go_wp2
      repeat (go_quiet (fail); try go_wp2)
      go_ret
      exact ⟨by first | rfl | (simp; done) | (simp [*]; done), by repeat (first | exact Drawn0.refl _ | apply Drawn0.step)⟩
def letterlockref7_Has.l0 : Nat → List ByteArray → ByteArray → Int → Option (Bool)
 | 0, _, _, _ => none
 | k + 1, x0, x1, x5 => if x5 < (x0.length : Int) then (if 0 ≤ x5 then (if (rdOf ByteArray.empty x0 x5).toList = x1.toList then (some true) else (letterlockref7_Has.l0 k x0 x1 (wrap64 (x5 + 1)))) else (none)) else (some false)
def letterlockref7_Has.f (k : Nat) (l0 : List ByteArray) (a1 : ByteArray) : Option (Bool) := letterlockref7_Has.l0 k l0 a1 0
set_option maxHeartbeats 8000000 in
set_option maxRecDepth 100000 in
theorem letterlockref7_Has.calls (k : Nat) (A0 : Option Addr) (c0 : Nat) (l0 : List ByteArray) (a1 : ByteArray) (r : Bool) (w : World) (hr0 : Kd.C Kd.string w A0 l0.length l0) (hc0 : l0.length ≤ c0) (h : letterlockref7_Has.f k l0 a1 = some r) :
  Calls Tryd.prog 48 #[.slice A0 l0.length c0, .string a1] w fun e w' => e = .returned (.bool r) ∧ Drawn0 w w' := by
 have HR0 := Aside0.mk hr0
 have HC0 := Aside0.mk hc0
 clear hr0 hc0
 have H : (letterlockref7_Has.l0 k l0 a1 0) = some r := h
 clear h
 have H' := Aside0.mk H
 clear H
 go_enter Tryd.func48, Tryd.ntmps48
 go_wp2
 go_loopg [5] k (fun kq v5 w' => ∃ (x5_1 : Int), v5 = .int .i64 x5_1 ∧ Aside0 (letterlockref7_Has.l0 kq l0 a1 x5_1 = some r) ∧ Aside0 (kq ≤ k) ∧ Drawn0 w w')
 case atStart => exact ⟨(0), (by first | rfl | (simp; done) | (simp [*]; done)), H', ⟨Nat.le_refl _⟩, by repeat (first | exact Drawn0.refl _ | apply Drawn0.step)⟩
 case round =>
  clear H'
  try clear p2
  obtain ⟨x5_1, rfl, HA, HK1, ⟨m1, rfl⟩⟩ := hrel
  cases gk with
  | zero => exact absurd HA.out (by simp [letterlockref7_Has.l0])
  | succ k1 =>
   have H := HA.out
   clear HA
   simp only [letterlockref7_Has.l0] at H
   by_cases c3 : x5_1 < (l0.length : Int)
   ·rw [if_pos c3] at H
    have c3b0 : decide (x5_1 < (l0.length : Int)) = true := decide_eq_true c3
    clear c3
    by_cases c4 : 0 ≤ x5_1
    ·rw [if_pos c4] at H
     have c4b0 : decide (0 ≤ x5_1) = true := decide_eq_true c4
     clear c4
     by_cases c5 : (rdOf ByteArray.empty l0 x5_1).toList = a1.toList
     ·rw [if_pos c5] at H
      have c5b0 : ((rdOf ByteArray.empty l0 x5_1).toList == a1.toList) = true := beq_iff_eq.mpr c5
      have c5b1 : ((rdOf ByteArray.empty l0 x5_1).toList != a1.toList) = false := bne_eq_false_iff_eq.mpr c5
      clear c5
      obtain rfl := Option.some.inj H
      have p174 : 0 ≤ (x5_1 : Int) := of_decide_eq_true (by first | (with_reducible assumption) | assumption)
      have q174 : x5_1 < (l0.length : Int) := of_decide_eq_true (by first | (with_reducible assumption) | assumption)
      obtain ⟨ad174, e174, hx174_0⟩ := Kd.at_string HR0.out x5_1 p174 q174
      cases e174
      replace p174 := eq_true p174
      replace q174 := eq_true q174
      go_wp2
      go_ret
      exact ⟨by first | rfl | (simp; done) | (simp [*]; done), by repeat (first | exact Drawn0.refl _ | apply Drawn0.step)⟩
     ·rw [if_neg c5] at H
      have c5b0 : ((rdOf ByteArray.empty l0 x5_1).toList == a1.toList) = false := beq_eq_false_iff_ne.mpr c5
      have c5b1 : ((rdOf ByteArray.empty l0 x5_1).toList != a1.toList) = true := bne_iff_ne.mpr c5
      have H' := Aside0.mk H
      clear H
      have p174 : 0 ≤ (x5_1 : Int) := of_decide_eq_true (by first | (with_reducible assumption) | assumption)
      have q174 : x5_1 < (l0.length : Int) := of_decide_eq_true (by first | (with_reducible assumption) | assumption)
      obtain ⟨ad174, e174, hx174_0⟩ := Kd.at_string HR0.out x5_1 p174 q174
      cases e174
      replace p174 := eq_true p174
      replace q174 := eq_true q174
      go_wp2
      go_roundg k1
      case measure => have := HK1.out; omega
      case rel => exact ⟨(wrap64 (x5_1 + 1)), (by first | rfl | (simp; done) | (simp [*]; done)), H', ⟨by have := HK1.out; omega⟩, by repeat (first | exact Drawn0.refl _ | apply Drawn0.step)⟩
    ·rw [if_neg c4] at H
     exact absurd H (by simp)
   ·rw [if_neg c3] at H
    have c3b0 : decide (x5_1 < (l0.length : Int)) = false := decide_eq_false c3
    clear c3
    obtain rfl := Option.some.inj H
    go_wp2
    go_ret
    exact ⟨by first | rfl | (simp; done) | (simp [*]; done), by repeat (first | exact Drawn0.refl _ | apply Drawn0.step)⟩
end Go.Proofs.YtfhanoloaejmkaaDoor.PA
end
section

namespace Go.Proofs.YtfhanoloaejmkaaDoor.Ref
open Go.RowKit Go.Proofs.YtfhanoloaejmkaaDoor Go.Proofs.YtfhanoloaejmkaaDoor.PA Go.Proofs.YtfhanoloaejmkaaDoorW.PrintWords Go.Proofs.YtfhanoloaejmkaaDoorW.PrintLast
set_option linter.unusedVariables false
def runesF (s : ByteArray) : List Int × Int := (if Lib.validD (bytes s) = true then runesD (bytes s) else [], if Lib.validD (bytes s) = true then 0 else 2)
theorem runesF_valid {s : ByteArray} (h : Lib.validD (bytes s) = true) : runesF s = (runesD (bytes s), 0) := by unfold runesF; rw [if_pos h, if_pos h]
theorem runesF_bad {s : ByteArray} (h : Lib.validD (bytes s) = false) : runesF s = ([], 2) := by unfold runesF; rw [h]; rfl
theorem valid_ref (r : Int) : letterlockref1_valid.f r = some (decide (ValidR r)) := by
  unfold letterlockref1_valid.f
  by_cases h0 : r ≥ 0
  · rw [if_pos h0]
    by_cases h1 : r ≤ 1114111
    · rw [if_pos h1]
      by_cases h2 : r < 55296
      · rw [if_pos h2, decide_eq_true (show ValidR r from Or.inl ⟨h0, h2⟩)]
      · rw [if_neg h2]
        by_cases h3 : r > 57343
        · rw [decide_eq_true h3, decide_eq_true (show ValidR r from Or.inr ⟨h3, h1⟩)]
        · rw [decide_eq_false h3, decide_eq_false (fun h => by unfold ValidR at h; omega)]
    · rw [if_neg h1, decide_eq_false (fun h => by unfold ValidR at h; omega)]
  · rw [if_neg h0, decide_eq_false (fun h => by unfold ValidR at h; omega)]
theorem w32 {n : Int} (h0 : -2147483648 ≤ n) (h1 : n ≤ 2147483647) : wrap32 n = n := by unfold wrap32; omega
end Go.Proofs.YtfhanoloaejmkaaDoor.Ref
end
section

namespace Go.Proofs.YtfhanoloaejmkaaDoor.Ref
open Go.RowKit Go.Proofs.YtfhanoloaejmkaaDoor Go.Proofs.YtfhanoloaejmkaaDoor.PA Go.Proofs.YtfhanoloaejmkaaDoorW.PrintWords Go.Proofs.YtfhanoloaejmkaaDoorW.PrintLast
set_option linter.unusedVariables false
def B (s : ByteArray) (i : Nat) : Nat := ((bytes s).getD i 0).toNat
theorem bt_B (s : ByteArray) (i : Nat) (h : i < s.size) : bt s (i : Int) = (B s i : Int) := by
  rw [bt_bytes s i h]
  unfold B
  rw [List.getD_eq_getElem?_getD, List.getElem?_eq_getElem (by rw [bytes_length]; exact h)]; rfl
theorem B_lt (s : ByteArray) (i : Nat) : B s i < 256 := UInt8.toNat_lt _
theorem decode_B (s : ByteArray) : Lib.decodeL (bytes s) = Lib.decodeN s.size (B s 0) (B s 1) (B s 2) (B s 3) := by rw [Lib.decodeL_N, bytes_length]; rfl
theorem cont_ok {s : ByteArray} {w x5 x6 : Int} {i : Nat} {r : Int × Int} (hw : (i : Int) < w) (hs : i < s.size) (h1 : 128 ≤ B s i) (h2 : B s i ≤ 191) (h0 : 0 ≤ x5) (h3 : 64 * x5 + 64 ≤ 2147483647) (hi : i ≤ 10)
    (h : Ev (fun k => letterlockref1_first.l0 k s w (64 * x5 + ((B s i : Int) - 128)) x6 ((i + 1 : Nat) : Int)) r) : Ev (fun k => letterlockref1_first.l0 k s w x5 x6 (i : Int)) r := by
  refine Ev.step (fun _ => rfl) (Ev.pos hw (Ev.pos (by omega) (Ev.pos (by omega) ?_)))
  rw [bt_B s i hs]
  refine Ev.neg (by omega) (Ev.neg (by omega) ?_)
  rw [w32 (n := 64 * x5) (by omega) (by omega), show ((B s i : Int) - 128) % 256 = (B s i : Int) - 128 from by omega, w32 (by omega) (by omega), w64 (by omega) (by omega)]
  exact h
theorem cont_bad {s : ByteArray} {w x5 x6 : Int} {i : Nat} (hw : (i : Int) < w) (hs : i < s.size) (h1 : ¬ (128 ≤ B s i ∧ B s i ≤ 191)) : Ev (fun k => letterlockref1_first.l0 k s w x5 x6 (i : Int)) (0, 0) := by
  refine Ev.step (fun _ => rfl) (Ev.pos hw (Ev.pos (by omega) (Ev.pos (by omega) ?_)))
  rw [bt_B s i hs]
  by_cases c : (B s i : Int) < 128
  · exact Ev.pos c (Ev.now _)
  · exact Ev.neg c (Ev.pos (by omega) (Ev.now _))
def endF (w x5 x6 : Int) : Int × Int := if x5 < x6 then (0, 0) else if ValidR x5 then (x5, w) else (0, 0)
theorem cont_end {s : ByteArray} {w x5 x6 : Int} {i : Nat} (hw : ¬ (i : Int) < w) : Ev (fun k => letterlockref1_first.l0 k s w x5 x6 (i : Int)) (endF w x5 x6) := by
  refine Ev.step (fun _ => rfl) (Ev.neg hw ?_)
  by_cases c : x5 < x6
  · exact ev_cast (Ev.pos c (Ev.now _)) (by unfold endF; rw [if_pos c])
  · refine Ev.neg c (Ev.put (valid_ref x5) ?_)
    by_cases h : ValidR x5
    · exact ev_cast (Ev.pos (decide_eq_true h) (Ev.now _)) (by unfold endF; rw [if_neg c, if_pos h])
    · exact ev_cast (Ev.neg (by simpa using h) (Ev.now _)) (by unfold endF; rw [if_neg c, if_neg h])
theorem enough {s : ByteArray} {w x5 x6 : Int} {r : Int × Int} (h0 : w ≠ 0) (h1 : w ≤ (s.size : Int)) (h : Ev (fun k => letterlockref1_first.l0 k s w x5 x6 ((1 : Nat) : Int)) r) : Ev (fun k => letterlockref1_first.j2 k s w x5 x6) r := by
  refine Ev.step (fun _ => rfl) (Ev.neg h0 ?_)
  rw [decide_eq_false (by omega)]
  exact Ev.step (fun _ => rfl) h
theorem short {s : ByteArray} {w x5 x6 : Int} (h : w = 0 ∨ (s.size : Int) < w) : Ev (fun k => letterlockref1_first.j2 k s w x5 x6) (0, 0) := by
  refine Ev.step (fun _ => rfl) ?_
  by_cases h0 : w = 0
  · exact Ev.pos h0 (Ev.step (fun _ => rfl) (Ev.now _))
  · refine Ev.neg h0 ?_
    rw [decide_eq_true (by rcases h with h | h; exact absurd h h0; exact h)]
    exact Ev.step (fun _ => rfl) (Ev.now _)
def firstF (l : Bs) : Int × Int := if l = [] then (0, 0) else if Bad l then (0, 0) else (((Lib.decodeL l).1 : Int), ((Lib.decodeL l).2 : Int))
def ofD (d : Nat × Nat) : Int × Int := if d.1 = 65533 ∧ d.2 = 1 then (0, 0) else ((d.1 : Int), (d.2 : Int))
theorem first_ofD {s : ByteArray} (h : 0 < s.size) : firstF (bytes s) = ofD (Lib.decodeN s.size (B s 0) (B s 1) (B s 2) (B s 3)) := by
  unfold firstF ofD
  rw [if_neg (fun e => by have := congrArg List.length e; rw [bytes_length, List.length_nil] at this; omega), ← decode_B]
  by_cases hb : Bad (bytes s)
  · rw [if_pos hb]; exact (if_pos hb).symm
  · rw [if_neg hb]; exact (if_neg hb).symm
theorem ofD_bad : ofD (65533, 1) = (0, 0) := by unfold ofD; rw [if_pos ⟨rfl, rfl⟩]
theorem ofD_ok {a b : Nat} (h : b ≠ 1) : ofD (a, b) = ((a : Int), (b : Int)) := by unfold ofD; rw [if_neg (fun e => h e.2)]
theorem first_ev (s : ByteArray) : Ev (fun k => letterlockref1_first.f k s) (firstF (bytes s)) := by
  unfold letterlockref1_first.f
  by_cases he : s.toList = ([] : List UInt8)
  · rw [bytes_toList] at he
    rw [show firstF (bytes s) = (0, 0) by unfold firstF; rw [if_pos he]]
    exact Ev.pos (by rw [bytes_toList]; exact he) (Ev.now _)
  refine Ev.neg he ?_
  rw [bytes_toList] at he
  have hs : 0 < s.size := by rw [← bytes_length]; exact List.length_pos_iff.2 he
  rw [first_ofD hs]
  have h0 := B_lt s 0
  have h1 := B_lt s 1
  have h2 := B_lt s 2
  have h3 := B_lt s 3
  have hb0 : bt s 0 = (B s 0 : Int) := bt_B s 0 hs
  refine Ev.pos (by omega) ?_
  rw [hb0]
  by_cases c0 : B s 0 < 128
  · have e : Lib.decodeN s.size (B s 0) (B s 1) (B s 2) (B s 3) = (B s 0, 1) := by unfold Lib.decodeN; rw [if_pos c0]
    rw [e]
    have : ofD (B s 0, 1) = ((B s 0 : Int), 1) := by unfold ofD; rw [if_neg (fun h => by have := h.1; simp only at this; omega)]; rfl
    rw [this, w32 (by omega) (by omega)]
    exact Ev.pos (by omega) (Ev.now _)
  refine Ev.neg (by omega) ?_
  by_cases c2 : 192 ≤ B s 0 ∧ B s 0 < 224
  · refine Ev.pos (by omega) ?_
    rw [decide_eq_true (by omega)]
    refine Ev.step (fun _ => rfl) (Ev.pos (by omega) ?_)
    rw [hb0, show ((B s 0 : Int) - 192) % 256 = (B s 0 : Int) - 192 from by omega]
    by_cases n2 : 2 ≤ s.size
    · refine enough (by omega) (by omega) ?_
      by_cases d1 : 128 ≤ B s 1 ∧ B s 1 ≤ 191
      · refine cont_ok (by omega) (by omega) d1.1 d1.2 (by omega) (by omega) (by omega) ?_
        refine ev_cast (cont_end (by omega)) ?_
        unfold Lib.decodeN
        rw [if_neg c0, if_pos ⟨by omega, by omega, by omega⟩]
        by_cases g : 64 * ((B s 0 : Int) - 192) + ((B s 1 : Int) - 128) < 128
        · rw [if_neg (by omega), ofD_bad]; unfold endF; rw [if_pos g]
        · rw [if_pos (by omega), ofD_ok (by omega)]
          unfold endF
          rw [if_neg g, if_pos (by unfold ValidR; omega)]
          exact Prod.ext (by show _ = ((_ : Nat) : Int); omega) rfl
      · refine ev_cast (cont_bad (by omega) (by omega) d1) ?_
        unfold Lib.decodeN
        rw [if_neg c0, if_neg (by omega), if_neg (by omega), if_neg (by omega), ofD_bad]
    · refine ev_cast (short (Or.inr (by omega))) ?_
      unfold Lib.decodeN
      rw [if_neg c0, if_neg (by omega), if_neg (by omega), if_neg (by omega), ofD_bad]
  have hj0 : ∀ r, Ev (fun k => letterlockref1_first.j0 k s 0 0 0 false) r → Ev (fun k => if (B s 0 : Int) ≥ 192 then letterlockref1_first.j0 k s 0 0 0 (decide ((B s 0 : Int) < 224)) else letterlockref1_first.j0 k s 0 0 0 false) r := by
    intro r h
    by_cases g : (B s 0 : Int) ≥ 192
    · refine Ev.pos g ?_
      rw [decide_eq_false (by omega)]; exact h
    · exact Ev.neg g h
  refine hj0 _ (Ev.step (fun _ => rfl) (Ev.pos (by omega) ?_))
  rw [hb0]
  by_cases c3 : 224 ≤ B s 0 ∧ B s 0 < 240
  · refine Ev.pos (by omega) ?_
    rw [decide_eq_true (by omega)]
    refine Ev.step (fun _ => rfl) (Ev.pos (by omega) ?_)
    rw [hb0, show ((B s 0 : Int) - 224) % 256 = (B s 0 : Int) - 224 from by omega]
    by_cases n3 : 3 ≤ s.size
    · refine enough (by omega) (by omega) ?_
      by_cases d1 : 128 ≤ B s 1 ∧ B s 1 ≤ 191
      · refine cont_ok (by omega) (by omega) d1.1 d1.2 (by omega) (by omega) (by omega) ?_
        by_cases d2 : 128 ≤ B s 2 ∧ B s 2 ≤ 191
        · refine cont_ok (i := 2) (by omega) (by omega) d2.1 d2.2 (by omega) (by omega) (by omega) ?_
          refine ev_cast (cont_end (by omega)) ?_
          unfold Lib.decodeN
          rw [if_neg c0, if_neg (by omega), if_pos ⟨by omega, ⟨by omega, by omega⟩, by omega, by omega⟩]
          by_cases g : 64 * (64 * ((B s 0 : Int) - 224) + ((B s 1 : Int) - 128)) + ((B s 2 : Int) - 128) < 2048
          · rw [if_neg (by omega), ofD_bad]; unfold endF; rw [if_pos g]
          · by_cases v : ValidR (64 * (64 * ((B s 0 : Int) - 224) + ((B s 1 : Int) - 128)) + ((B s 2 : Int) - 128))
            · rw [if_pos (by unfold ValidR at v; omega), ofD_ok (by omega)]
              unfold endF
              rw [if_neg g, if_pos v]
              exact Prod.ext (by show _ = ((_ : Nat) : Int); omega) rfl
            · rw [if_neg (by unfold ValidR at v; omega), ofD_bad]
              unfold endF
              rw [if_neg g, if_neg v]
        · refine ev_cast (cont_bad (i := 2) (by omega) (by omega) d2) ?_
          unfold Lib.decodeN
          rw [if_neg c0, if_neg (by omega), if_neg (by omega), if_neg (by omega), ofD_bad]
      · refine ev_cast (cont_bad (by omega) (by omega) d1) ?_
        unfold Lib.decodeN
        rw [if_neg c0, if_neg (by omega), if_neg (by omega), if_neg (by omega), ofD_bad]
    · refine ev_cast (short (Or.inr (by omega))) ?_
      unfold Lib.decodeN
      rw [if_neg c0, if_neg (by omega), if_neg (by omega), if_neg (by omega), ofD_bad]
  have hj1 : ∀ r, Ev (fun k => letterlockref1_first.j1 k s 0 0 0 false) r → Ev (fun k => if (B s 0 : Int) ≥ 224 then letterlockref1_first.j1 k s 0 0 0 (decide ((B s 0 : Int) < 240)) else letterlockref1_first.j1 k s 0 0 0 false) r := by
    intro r h
    by_cases g : (B s 0 : Int) ≥ 224
    · refine Ev.pos g ?_
      rw [decide_eq_false (by omega)]; exact h
    · exact Ev.neg g h
  refine hj1 _ (Ev.step (fun _ => rfl) (Ev.pos (by omega) ?_))
  rw [hb0]
  by_cases c4 : 240 ≤ B s 0 ∧ B s 0 < 248
  · refine Ev.pos (by omega) (Ev.pos (by omega) ?_)
    rw [show ((B s 0 : Int) - 240) % 256 = (B s 0 : Int) - 240 from by omega]
    by_cases n4 : 4 ≤ s.size
    · refine enough (by omega) (by omega) ?_
      by_cases d1 : 128 ≤ B s 1 ∧ B s 1 ≤ 191
      · refine cont_ok (by omega) (by omega) d1.1 d1.2 (by omega) (by omega) (by omega) ?_
        by_cases d2 : 128 ≤ B s 2 ∧ B s 2 ≤ 191
        · refine cont_ok (i := 2) (by omega) (by omega) d2.1 d2.2 (by omega) (by omega) (by omega) ?_
          by_cases d3 : 128 ≤ B s 3 ∧ B s 3 ≤ 191
          · refine cont_ok (i := 3) (by omega) (by omega) d3.1 d3.2 (by omega) (by omega) (by omega) ?_
            refine ev_cast (cont_end (by omega)) ?_
            unfold Lib.decodeN
            rw [if_neg c0, if_neg (by omega), if_neg (by omega), if_pos ⟨by omega, ⟨by omega, by omega⟩, ⟨by omega, by omega⟩, by omega, by omega⟩]
            by_cases g : 64 * (64 * (64 * ((B s 0 : Int) - 240) + ((B s 1 : Int) - 128)) + ((B s 2 : Int) - 128)) + ((B s 3 : Int) - 128) < 65536
            · rw [if_neg (by omega), ofD_bad]; unfold endF; rw [if_pos g]
            · by_cases v : ValidR (64 * (64 * (64 * ((B s 0 : Int) - 240) + ((B s 1 : Int) - 128)) + ((B s 2 : Int) - 128)) + ((B s 3 : Int) - 128))
              · rw [if_pos (by unfold ValidR at v; omega), ofD_ok (by omega)]
                unfold endF
                rw [if_neg g, if_pos v]
                exact Prod.ext (by show _ = ((_ : Nat) : Int); omega) rfl
              · rw [if_neg (by unfold ValidR at v; omega), ofD_bad]
                unfold endF
                rw [if_neg g, if_neg v]
          · refine ev_cast (cont_bad (i := 3) (by omega) (by omega) d3) ?_
            unfold Lib.decodeN
            rw [if_neg c0, if_neg (by omega), if_neg (by omega), if_neg (by omega), ofD_bad]
        · refine ev_cast (cont_bad (i := 2) (by omega) (by omega) d2) ?_
          unfold Lib.decodeN
          rw [if_neg c0, if_neg (by omega), if_neg (by omega), if_neg (by omega), ofD_bad]
      · refine ev_cast (cont_bad (by omega) (by omega) d1) ?_
        unfold Lib.decodeN
        rw [if_neg c0, if_neg (by omega), if_neg (by omega), if_neg (by omega), ofD_bad]
    · refine ev_cast (short (Or.inr (by omega))) ?_
      unfold Lib.decodeN
      rw [if_neg c0, if_neg (by omega), if_neg (by omega), if_neg (by omega), ofD_bad]
  · have e : Lib.decodeN s.size (B s 0) (B s 1) (B s 2) (B s 3) = (65533, 1) := by
      unfold Lib.decodeN
      rw [if_neg c0, if_neg (by omega), if_neg (by omega), if_neg (by omega)]
    rw [e, ofD_bad]
    by_cases g : (B s 0 : Int) ≥ 240
    · exact Ev.pos g (Ev.neg (by omega) (short (Or.inl rfl)))
    · exact Ev.neg g (short (Or.inl rfl))
end Go.Proofs.YtfhanoloaejmkaaDoor.Ref
end
section

namespace Go.Proofs.YtfhanoloaejmkaaDoor.Ref
open Go.RowKit Go.Proofs.YtfhanoloaejmkaaDoor Go.Proofs.YtfhanoloaejmkaaDoor.PA Go.Proofs.YtfhanoloaejmkaaDoorW.PrintWords Go.Proofs.YtfhanoloaejmkaaDoorW.PrintLast
set_option linter.unusedVariables false
theorem bytes_ne {s : ByteArray} (h : bytes s ≠ []) : ¬ s.toList = ([] : List UInt8) := by rw [bytes_toList]; exact h
theorem first_bad {l : Bs} (hne : l ≠ []) (h : Bad l) : firstF l = (0, 0) := by unfold firstF; rw [if_neg hne, if_pos h]
theorem first_good {l : Bs} (hne : l ≠ []) (h : ¬ Bad l) : firstF l = (((Lib.decodeL l).1 : Int), ((Lib.decodeL l).2 : Int)) := by unfold firstF; rw [if_neg hne, if_neg h]
theorem extract_step (s : ByteArray) (w : Nat) : bytes (s.extract ((w : Int)).toNat s.size) = (bytes s).drop w := by rw [Int.toNat_natCast, bytes_from]
theorem refRunes_loop (l : Bs) : ∀ (s : ByteArray) (acc : List Int), bytes s = l → s.size ≤ 1000000 → acc.length + s.size ≤ 1000000 →
    Ev (fun k => letterlockref1_Runes.l0 k s acc) (if Lib.validD l = true then (acc ++ runesD l, 0) else ([], 2)) := by
  refine steps_ind (p := fun l => ∀ (s : ByteArray) (acc : List Int), bytes s = l → s.size ≤ 1000000 → acc.length + s.size ≤ 1000000 →
    Ev (fun k => letterlockref1_Runes.l0 k s acc) (if Lib.validD l = true then (acc ++ runesD l, 0) else ([], 2))) ?_ ?_ l
  · intro s acc hs hz ha
    refine ev_cast (Ev.step (fun _ => rfl) (Ev.pos (by rw [bytes_toList]; exact hs) (Ev.now _))) ?_
    rw [if_pos Lib.validD_nil, runesD_nil, List.append_nil]
  · intro l hne ih s acc hs hz ha
    have hw := Lib.decodeL_width l
    have hle := Lib.decodeL_le l hne
    have hsz : s.size = l.length := by rw [← bytes_length, hs]
    refine Ev.step (fun _ => rfl) (Ev.neg (bytes_ne (by rw [hs]; exact hne)) (Ev.bind (first_ev s) ?_))
    rw [hs]
    by_cases hb : Bad l
    · rw [first_bad hne hb]
      refine ev_cast (Ev.pos rfl (Ev.now _)) ?_
      rw [if_neg (by rw [valid_step hne, if_pos hb]; simp)]
    · rw [first_good hne hb]
      refine Ev.neg (by show ¬ ((Lib.decodeL l).2 : Int) = 0; omega) (Ev.pos (by omega) (Ev.pos (by show (0 : Int) ≤ ((Lib.decodeL l).2 : Int); omega) (Ev.pos (by show ((Lib.decodeL l).2 : Int) ≤ (s.size : Int); omega) ?_)))
      have hd := extract_step s (Lib.decodeL l).2
      rw [hs] at hd
      have hz2 : (s.extract (((Lib.decodeL l).2 : Int)).toNat s.size).size = l.length - (Lib.decodeL l).2 := by rw [← bytes_length, hd, List.length_drop]
      refine ev_cast (ih (s.extract (((Lib.decodeL l).2 : Int)).toNat s.size) (acc ++ [((Lib.decodeL l).1 : Int)]) hd (by omega) (by rw [List.length_append, List.length_singleton]; omega)) ?_
      rw [valid_step hne, if_neg hb, runesD_step hne, List.append_assoc]
      rfl
theorem refRunes_ev (s : ByteArray) (h : s.size ≤ 1000000) : Ev (fun k => letterlockref1_Runes.f k s) (runesF s) := by
  unfold letterlockref1_Runes.f
  refine ev_cast (refRunes_loop (bytes s) s [] rfl h (by simpa using h)) ?_
  unfold runesF
  cases Lib.validD (bytes s) <;> rfl
theorem in_ref (r a b : Int) : letterlockref1_in.f r a b = some (decide (a ≤ r ∧ r ≤ b)) := by
  unfold letterlockref1_in.f
  by_cases h : r ≥ a
  · rw [if_pos h]
    by_cases h2 : r ≤ b
    · rw [decide_eq_true h2, decide_eq_true ⟨h, h2⟩]
    · rw [decide_eq_false h2, decide_eq_false (fun e => h2 e.2)]
  · rw [if_neg h, decide_eq_false (fun e => h e.1)]
theorem or_ite2 (p : Prop) [Decidable p] (b : Bool) : (if p then some true else some b) = some (decide p || b) := by
  by_cases h : p
  · rw [if_pos h, decide_eq_true h]; rfl
  · rw [if_neg h, decide_eq_false h]; rfl
theorem letter_ref (r : Int) : letterlockref1_letter.f r = some (letterZ r) := by
  unfold letterlockref1_letter.f letterZ
  simp only [in_ref, Option.bind_some, or_ite2, Bool.decide_eq_true, Bool.or_assoc]
theorem refRight_loop (l : List Int) (hl : l.length ≤ 1000000) (m i : Nat) (hm : i + m = l.length) : Ev (fun k => letterlockref1_Right.l0 k l (i : Int)) ((l.drop i).all letterZ) := by
  induction m generalizing i with
  | zero =>
    rw [List.drop_eq_nil_of_le (by omega)]
    exact Ev.step (fun _ => rfl) (Ev.neg (by omega) (Ev.now _))
  | succ m ih =>
    have hi : i < l.length := by omega
    have ih := ih (i + 1) (by omega)
    rw [List.drop_eq_getElem_cons hi, List.all_cons]
    refine Ev.step (fun _ => rfl) (Ev.pos (by omega) (Ev.pos (by omega) ?_))
    rw [rd_get l i hi]
    refine Ev.put (letter_ref l[i]) ?_
    cases letterZ l[i] with
    | false => exact Ev.neg (by simp) (Ev.now _)
    | true =>
      refine Ev.pos rfl ?_
      rw [w64 (by omega) (by omega), Bool.true_and]
      exact ih
theorem refRight_ev (s : ByteArray) (h : s.size ≤ 1000000) : Ev (fun k => letterlockref1_Right.f k s) (rightN (bytes s)) := by
  have hl := runesD_len (bytes s)
  rw [bytes_length] at hl
  unfold letterlockref1_Right.f
  refine Ev.bind (refRunes_ev s h) ?_
  unfold rightN
  cases hv : Lib.validD (bytes s) with
  | false =>
    rw [runesF_bad hv]
    exact Ev.neg (by simp) (Ev.step (fun _ => rfl) (Ev.now _))
  | true =>
    rw [runesF_valid hv]
    refine Ev.pos rfl ?_
    by_cases h1 : ((runesD (bytes s)).length : Int) < 1
    · refine ev_cast (Ev.pos h1 (Ev.step (fun _ => rfl) (Ev.now _))) ?_
      rw [decide_eq_false (by omega), Bool.and_false]
    · refine Ev.neg h1 ?_
      by_cases h2 : ((runesD (bytes s)).length : Int) > 32
      · show Ev (fun k => letterlockref1_Right.j0 k (runesD (bytes s)) (decide (((runesD (bytes s)).length : Int) > 32))) _
        rw [decide_eq_true h2]
        refine ev_cast (Ev.step (fun _ => rfl) (Ev.now _)) ?_
        rw [decide_eq_false (by omega), Bool.and_false]
      · show Ev (fun k => letterlockref1_Right.j0 k (runesD (bytes s)) (decide (((runesD (bytes s)).length : Int) > 32))) _
        rw [decide_eq_false h2]
        refine Ev.step (fun _ => rfl) (ev_cast (refRight_loop (runesD (bytes s)) (by omega) (runesD (bytes s)).length 0 (by omega)) ?_)
        rw [decide_eq_true ⟨by omega, by omega⟩, Bool.and_true, Bool.true_and]; rfl
theorem refLess_loop (a b : ByteArray) (ha : a.size ≤ 1000000) (hb : b.size ≤ 1000000) (m i : Nat) (hm : i + m = a.size) (hi : i ≤ b.size) (hp : (bytes a).take i = (bytes b).take i) :
    Ev (fun k => letterlockref1_Less.l0 k a b (i : Int)) (decide ((bytes a).drop i < (bytes b).drop i)) := by
  induction m generalizing i with
  | zero =>
    have e1 : (bytes a).drop i = [] := List.drop_eq_nil_of_le (by rw [bytes_length]; omega)
    refine Ev.step (fun _ => rfl) (Ev.neg (by omega) (Ev.step (fun _ => rfl) ?_))
    refine ev_cast (Ev.now _) ?_
    rw [e1]
    by_cases h : i < b.size
    · rw [decide_eq_true (by omega), List.drop_eq_getElem_cons (by rw [bytes_length]; exact h)]
      exact (decide_eq_true (List.nil_lt_cons _ _)).symm
    · rw [decide_eq_false (by omega), List.drop_eq_nil_of_le (by rw [bytes_length]; omega)]
      exact (decide_eq_false (List.lt_irrefl _)).symm
  | succ m ih =>
    have hla : i < (bytes a).length := by rw [bytes_length]; omega
    refine Ev.step (fun _ => rfl) (Ev.pos (by omega) ?_)
    by_cases h : i < b.size
    · have hlb : i < (bytes b).length := by rw [bytes_length]; exact h
      rw [decide_eq_true (by omega : (i : Int) < (b.size : Int)), List.drop_eq_getElem_cons hla, List.drop_eq_getElem_cons hlb]
      refine Ev.step (fun _ => rfl) (Ev.pos (by omega) (Ev.pos (by omega) ?_))
      rw [bt_bytes a i (by omega), bt_bytes b i h]
      by_cases he : (bytes a)[i] = (bytes b)[i]
      · refine Ev.pos (by rw [he]) ?_
        rw [w64 (by omega) (by omega)]
        refine ev_cast (ih (i + 1) (by omega) (by omega) (by rw [List.take_succ_eq_append_getElem hla, List.take_succ_eq_append_getElem hlb, hp, he])) ?_
        rw [he]
        exact decide_eq_decide.2 ⟨fun h => List.cons_lt_cons_iff.2 (Or.inr ⟨rfl, h⟩), fun h => (List.cons_lt_cons_iff.1 h).elim (fun e => absurd e (UInt8.lt_irrefl _)) And.right⟩
      · have hne : ¬ (((bytes a)[i]).toNat : Int) = (((bytes b)[i]).toNat : Int) := fun e => he (UInt8.toNat_inj.1 (by omega))
        refine Ev.neg hne (ev_cast (Ev.now _) ?_)
        by_cases hl : (bytes a)[i] < (bytes b)[i]
        · rw [decide_eq_true (by have := UInt8.lt_iff_toNat_lt.1 hl; omega), decide_eq_true (List.cons_lt_cons_iff.2 (Or.inl hl))]
        · rw [decide_eq_false (fun e => hl (UInt8.lt_iff_toNat_lt.2 (by omega))), decide_eq_false (fun e => by
            rcases List.cons_lt_cons_iff.1 e with e | e
            · exact hl e
            · exact he e.1)]
    · rw [decide_eq_false (by omega : ¬ (i : Int) < (b.size : Int)), List.drop_eq_nil_of_le (by rw [bytes_length]; omega : (bytes b).length ≤ i)]
      refine Ev.step (fun _ => rfl) (ev_cast (Ev.now _) ?_)
      rw [decide_eq_false (by omega)]
      exact (decide_eq_false (List.not_lt_nil _)).symm
theorem refLess_ev (a b : ByteArray) (ha : a.size ≤ 1000000) (hb : b.size ≤ 1000000) : Ev (fun k => letterlockref1_Less.f k a b) (decide (bytes a < bytes b)) := by
  unfold letterlockref1_Less.f
  exact ev_cast (refLess_loop a b ha hb a.size 0 (by omega) (by omega) (by simp)) (by simp)
end Go.Proofs.YtfhanoloaejmkaaDoor.Ref
end
section

namespace Go.Proofs.YtfhanoloaejmkaaDoor.PA
open Go.RowKit Go.Proofs.YtfhanoloaejmkaaDoorW.PrintWords Go.Proofs.YtfhanoloaejmkaaDoorW.PrintLast Go.Proofs.YtfhanoloaejmkaaDoorW.PrintMore
attribute [local go_sem] max2_int min2_int max_two min_two max_three min_three max_four min_four   -- for this text's walks alone
set_option linter.unusedVariables false
set_option linter.unusedSimpArgs false
def letterlockref7_with.l0 : Nat → List ByteArray → ByteArray → List ByteArray → Bool → Int → Option (List ByteArray)
 | 0, _, _, _, _, _ => none
 | k + 1, x0, x1, x5, x6, x7 => if x7 < (x0.length : Int) then (if x6 = true then (if 0 ≤ x7 then (if x5.length < 8796093022208 then (letterlockref7_with.l0 k x0 x1 (x5 ++ [rdOf ByteArray.empty x0 x7]) x6 (wrap64 (x7 + 1))) else (none)) else (none)) else (if 0 ≤ x7 then ((letterlockref1_Less.f k x1 (rdOf ByteArray.empty x0 x7)).bind fun t180 => (if t180 = true then (if x5.length < 8796093022208 then ((some (x5 ++ [x1] : List ByteArray)).bind fun y181 => (if y181.length < 8796093022208 then (letterlockref7_with.l0 k x0 x1 (y181 ++ [rdOf ByteArray.empty x0 x7]) true (wrap64 (x7 + 1))) else (none))) else (none)) else (if x5.length < 8796093022208 then (letterlockref7_with.l0 k x0 x1 (x5 ++ [rdOf ByteArray.empty x0 x7]) x6 (wrap64 (x7 + 1))) else (none)))) else (none))) else (if x6 = true then (some x5) else (if x5.length < 8796093022208 then (some (x5 ++ [x1])) else (none)))
def letterlockref7_with.f (k : Nat) (l0 : List ByteArray) (a1 : ByteArray) : Option (List ByteArray) := letterlockref7_with.l0 k l0 a1 ([] : List ByteArray) false 0
set_option maxHeartbeats 8000000 in
set_option maxRecDepth 100000 in
theorem letterlockref7_with.calls (k : Nat) (A0 : Option Addr) (c0 : Nat) (l0 : List ByteArray) (a1 : ByteArray) (r : List ByteArray) (w : World) (hr0 : Kd.C Kd.string w A0 l0.length l0) (hc0 : l0.length ≤ c0) (h : letterlockref7_with.f k l0 a1 = some r) :
  Calls Tryd.prog 50 #[.slice A0 l0.length c0, .string a1] w fun e w' => ∃ v0_ : Value, e = .returned (v0_) ∧ Kd.R Kd.string 9 w' w.heap.size (fun _ => True) v0_ r ∧ Below w.heap.size w w' := by
 have HR0 := Aside0.mk hr0
 have HC0 := Aside0.mk hc0
 clear hr0 hc0
 have HB := Aside0.mk (Below.refl w.heap.size w)
 have H : (letterlockref7_with.l0 k l0 a1 ([] : List ByteArray) false 0) = some r := h
 clear h
 have H' := Aside0.mk H
 clear H
 go_enter Tryd.func50, Tryd.ntmps50
 go_wp2
 go_loopg [5, 6, 7] k (fun kq v5 v6 v7 w' => ∃ (x5_1 : List ByteArray) (x6_1 : Bool) (x7_1 : Int), v6 = .bool x6_1 ∧ v7 = .int .i64 x7_1 ∧ Aside0 (letterlockref7_with.l0 kq l0 a1 x5_1 x6_1 x7_1 = some r) ∧ Aside0 (kq ≤ k) ∧ Aside0 (Kd.R Kd.string 9 w' w.heap.size (fun _ => True) v5 x5_1) ∧ Aside0 (Below w.heap.size w w'))
 case atStart => exact ⟨(([] : List ByteArray)), (false), (0), (by first | rfl | (simp; done) | (simp [*]; done)), (by first | rfl | (simp; done) | (simp [*]; done)), H', ⟨Nat.le_refl _⟩, ⟨by first | exact Kd.R_nil _ _ _ _ _ | exact Kd.N_nil _ _ _ _ _ | exact Kd.V_nil _ _ _ _ _ | exact Kd.Q_nil _ _ _ _ _ | exact Kd.S_nil _ _ _ _ _⟩, ⟨by repeat (first | (with_reducible first | exact HB.out | apply below_alloc | apply pw_below_drewN | apply below_drew1) | exact HB.out)⟩⟩
 case round =>
  clear H'
  try clear p2
  obtain ⟨x5_1, x6_1, x7_1, rfl, rfl, HA, HK1, HO_5, HB⟩ := hrel
  cases gk with
  | zero => exact absurd HA.out (by simp [letterlockref7_with.l0])
  | succ k1 =>
   have H := HA.out
   clear HA
   simp only [letterlockref7_with.l0] at H
   by_cases c3 : x7_1 < (l0.length : Int)
   ·rw [if_pos c3] at H
    have c3b0 : decide (x7_1 < (l0.length : Int)) = true := decide_eq_true c3
    clear c3
    by_cases c4 : x6_1 = true
    ·subst c4
     have H1 : (if 0 ≤ x7_1 then (if x5_1.length < 8796093022208 then (letterlockref7_with.l0 k1 l0 a1 (x5_1 ++ [rdOf ByteArray.empty l0 x7_1]) true (wrap64 (x7_1 + 1))) else (none)) else (none)) = some r := by rw [if_pos rfl] at H; exact H
     clear H
     have H := H1
     clear H1
     by_cases c5 : 0 ≤ x7_1
     ·rw [if_pos c5] at H
      have c5b0 : decide (0 ≤ x7_1) = true := decide_eq_true c5
      clear c5
      by_cases c6 : x5_1.length < 8796093022208
      ·rw [if_pos c6] at H
       have LMc6 := Aside0.mk c6
       clear c6
       obtain ⟨y176, hy176⟩ : ∃ y_ : List ByteArray, y_ = (x5_1 ++ [rdOf ByteArray.empty l0 x7_1]) := ⟨_, rfl⟩
       replace H : (letterlockref7_with.l0 k1 l0 a1 y176 true (wrap64 (x7_1 + 1))) = some r := by first | (rw [hy176]; with_reducible exact H) | (have H2_ := (Option.bind_some _ _).symm.trans H; rw [hy176]; with_reducible exact H2_) | (have H2_ := (Option.bind_some _ _).symm.trans H; with_reducible exact H2_) | with_reducible exact H | (rw [hy176]; exact H) | exact H
       have Ny176 := Aside0.mk hy176
       clear hy176
       have H' := Aside0.mk H
       clear H
       have p175 : 0 ≤ (x7_1 : Int) := of_decide_eq_true (by first | (with_reducible assumption) | assumption)
       have q175 : x7_1 < (l0.length : Int) := of_decide_eq_true (by first | (with_reducible assumption) | assumption)
       obtain ⟨ad175, e175, hx175_0⟩ := Kd.at_string HR0.out x7_1 p175 q175
       cases e175
       replace hx175_0 := (HB.out.cell (World.block_lt_of_cell? w _ hx175_0)).trans hx175_0
       replace p175 := eq_true p175
       replace q175 := eq_true q175
       go_wp2_with (first | ((with_reducible refine gate_builtin (b := .append) (xs := #[.tmp 28, .tmp 33]) rfl ?_); at_builtin; refine Kd.R_append Kd.string (w0 := w) w.heap.size rfl (.tmp 28) (.tmp 33) 24 9 (.string ⟨#[]⟩) 16 rfl Tryd.underlying24 info9 rfl (by decide) (by omega) u5 x5_1 (rdOf ByteArray.empty l0 x7_1) [.string (rdOf ByteArray.empty l0 x7_1)] (fun _ => True) (fun _ => False) rfl rfl ?aP (fun _ hk => hk.elim) ?aF ?aO ?aB ?aS ?aL ?_; (case aP => exact rfl); (case aB => exact (by repeat (first | (with_reducible first | exact HB.out | apply below_alloc | apply pw_below_drewN | apply below_drew1) | exact HB.out))); (case aF => exact (fun _ _ => trivial)); (case aO => exact (by (with_reducible repeat (first | apply Kd.R_alloc | apply Kd.R_drewN | apply Kd.R_drew)); exact HO_5.out)); (case aS => exact (below_size (by repeat (first | (with_reducible first | exact HB.out | apply below_alloc | apply pw_below_drewN | apply below_drew1) | exact HB.out)))); (case aL => have := LMc6.out; omega); intro v177 w7 ho hb hg hat; rw [← Ny176.out] at ho; have n0_ := Aside0.mk (hb); have n1_ := Aside0.mk (ho); clear HB; clear HO_5; have HB := n0_; have HO178 := n1_; clear n0_ n1_; clear ho hb hg hat))
       go_roundg k1
       case measure => have := HK1.out; omega
       case rel => exact ⟨(y176), (true), (wrap64 (x7_1 + 1)), (by first | rfl | (simp; done) | (simp [*]; done)), (by first | rfl | (simp; done) | (simp [*]; done)), H', ⟨by have := HK1.out; omega⟩, ⟨by (with_reducible repeat (first | apply Kd.R_alloc | apply Kd.R_drewN | apply Kd.R_drew)); exact HO178.out⟩, ⟨by repeat (first | (with_reducible first | exact HB.out | apply below_alloc | apply pw_below_drewN | apply below_drew1) | exact HB.out)⟩⟩
      ·rw [if_neg c6] at H
       exact absurd H (by simp)
     ·rw [if_neg c5] at H
      exact absurd H (by simp)
    ·replace c4 := Bool.eq_false_iff.mpr c4
     subst c4
     have H1 : (if 0 ≤ x7_1 then ((letterlockref1_Less.f k1 a1 (rdOf ByteArray.empty l0 x7_1)).bind fun t180 => (if t180 = true then (if x5_1.length < 8796093022208 then ((some (x5_1 ++ [a1] : List ByteArray)).bind fun y181 => (if y181.length < 8796093022208 then (letterlockref7_with.l0 k1 l0 a1 (y181 ++ [rdOf ByteArray.empty l0 x7_1]) true (wrap64 (x7_1 + 1))) else (none))) else (none)) else (if x5_1.length < 8796093022208 then (letterlockref7_with.l0 k1 l0 a1 (x5_1 ++ [rdOf ByteArray.empty l0 x7_1]) false (wrap64 (x7_1 + 1))) else (none)))) else (none)) = some r := by rw [if_neg (show ¬ (false = true) by decide)] at H; exact H
     clear H
     have H := H1
     clear H1
     by_cases c8 : 0 ≤ x7_1
     ·rw [if_pos c8] at H
      have c8b0 : decide (0 ≤ x7_1) = true := decide_eq_true c8
      clear c8
      replace H := Option.bind_eq_some_iff.mp H
      obtain ⟨t180, A90, H⟩ := H
      replace H : (if t180 = true then (if x5_1.length < 8796093022208 then ((some (x5_1 ++ [a1] : List ByteArray)).bind fun y181 => (if y181.length < 8796093022208 then (letterlockref7_with.l0 k1 l0 a1 (y181 ++ [rdOf ByteArray.empty l0 x7_1]) true (wrap64 (x7_1 + 1))) else (none))) else (none)) else (if x5_1.length < 8796093022208 then (letterlockref7_with.l0 k1 l0 a1 (x5_1 ++ [rdOf ByteArray.empty l0 x7_1]) false (wrap64 (x7_1 + 1))) else (none))) = some r := H
      have A9 := Aside0.mk A90
      clear A90
      by_cases c10 : t180 = true
      ·subst c10
       have H1 : (if x5_1.length < 8796093022208 then ((some (x5_1 ++ [a1] : List ByteArray)).bind fun y181 => (if y181.length < 8796093022208 then (letterlockref7_with.l0 k1 l0 a1 (y181 ++ [rdOf ByteArray.empty l0 x7_1]) true (wrap64 (x7_1 + 1))) else (none))) else (none)) = some r := by rw [if_pos rfl] at H; exact H
       clear H
       have H := H1
       clear H1
       by_cases c11 : x5_1.length < 8796093022208
       ·rw [if_pos c11] at H
        have LMc11 := Aside0.mk c11
        clear c11
        obtain ⟨y181, hy181⟩ : ∃ y_ : List ByteArray, y_ = (x5_1 ++ [a1]) := ⟨_, rfl⟩
        replace H : (if y181.length < 8796093022208 then (letterlockref7_with.l0 k1 l0 a1 (y181 ++ [rdOf ByteArray.empty l0 x7_1]) true (wrap64 (x7_1 + 1))) else (none)) = some r := by first | (rw [hy181]; with_reducible exact H) | (have H2_ := (Option.bind_some _ _).symm.trans H; rw [hy181]; with_reducible exact H2_) | (have H2_ := (Option.bind_some _ _).symm.trans H; with_reducible exact H2_) | with_reducible exact H | (rw [hy181]; exact H) | exact H
        have Ny181 := Aside0.mk hy181
        clear hy181
        by_cases c12 : y181.length < 8796093022208
        ·rw [if_pos c12] at H
         have LMc12 := Aside0.mk c12
         clear c12
         obtain ⟨y185, hy185⟩ : ∃ y_ : List ByteArray, y_ = (y181 ++ [rdOf ByteArray.empty l0 x7_1]) := ⟨_, rfl⟩
         replace H : (letterlockref7_with.l0 k1 l0 a1 y185 true (wrap64 (x7_1 + 1))) = some r := by first | (rw [hy185]; with_reducible exact H) | (have H2_ := (Option.bind_some _ _).symm.trans H; rw [hy185]; with_reducible exact H2_) | (have H2_ := (Option.bind_some _ _).symm.trans H; with_reducible exact H2_) | with_reducible exact H | (rw [hy185]; exact H) | exact H
         have Ny185 := Aside0.mk hy185
         clear hy185
         have H' := Aside0.mk H
         clear H
         have p179 : 0 ≤ (x7_1 : Int) := of_decide_eq_true (by first | (with_reducible assumption) | assumption)
         have q179 : x7_1 < (l0.length : Int) := of_decide_eq_true (by first | (with_reducible assumption) | assumption)
         obtain ⟨ad179, e179, hx179_0⟩ := Kd.at_string HR0.out x7_1 p179 q179
         cases e179
         replace hx179_0 := (HB.out.cell (World.block_lt_of_cell? w _ hx179_0)).trans hx179_0
         replace p179 := eq_true p179
         replace q179 := eq_true q179
         go_wp2_with (first | (go_at_call 70; (with_reducible refine (letterlockref1_Less.calls k1 a1 (rdOf ByteArray.empty l0 x7_1) true _ A9.out).mono ?_); rintro e w' ⟨rfl, ⟨nd, rfl⟩⟩) | ((with_reducible refine gate_builtin (b := .append) (xs := #[.tmp 24, .tmp 26]) rfl ?_); at_builtin; refine Kd.R_append Kd.string (w0 := w) w.heap.size rfl (.tmp 24) (.tmp 26) 24 9 (.string ⟨#[]⟩) 16 rfl Tryd.underlying24 info9 rfl (by decide) (by omega) u5 x5_1 a1 [.string a1] (fun _ => True) (fun _ => False) rfl rfl ?aP (fun _ hk => hk.elim) ?aF ?aO ?aB ?aS ?aL ?_; (case aP => exact rfl); (case aB => exact (by repeat (first | (with_reducible first | exact HB.out | apply below_alloc | apply pw_below_drewN | apply below_drew1) | exact HB.out))); (case aF => exact (fun _ _ => trivial)); (case aO => exact (by (with_reducible repeat (first | apply Kd.R_alloc | apply Kd.R_drewN | apply Kd.R_drew)); exact HO_5.out)); (case aS => exact (below_size (by repeat (first | (with_reducible first | exact HB.out | apply below_alloc | apply pw_below_drewN | apply below_drew1) | exact HB.out)))); (case aL => have := LMc11.out; omega); intro v182 w13 ho hb hg hat; rw [← Ny181.out] at ho; have n0_ := Aside0.mk (hb); have n1_ := Aside0.mk (ho); clear HB; clear HO_5; have HB := n0_; have HO183 := n1_; clear n0_ n1_; clear ho hb hg hat; have p184 : 0 ≤ (x7_1 : Int) := of_decide_eq_true (by first | (with_reducible assumption) | assumption); have q184 : x7_1 < (l0.length : Int) := of_decide_eq_true (by first | (with_reducible assumption) | assumption); obtain ⟨ad184, e184, hx184_0⟩ := Kd.at_string HR0.out x7_1 p184 q184; obtain rfl : ad179 = ad184 := (by injection e184); replace hx184_0 := (HB.out.cell (World.block_lt_of_cell? w _ hx184_0)).trans hx184_0; replace p184 := eq_true p184; replace q184 := eq_true q184) | ((with_reducible refine gate_builtin (b := .append) (xs := #[.tmp 28, .tmp 33]) rfl ?_); at_builtin; refine Kd.R_append Kd.string (w0 := w) w.heap.size rfl (.tmp 28) (.tmp 33) 24 9 (.string ⟨#[]⟩) 16 rfl Tryd.underlying24 info9 rfl (by decide) (by omega) v182 y181 (rdOf ByteArray.empty l0 x7_1) [.string (rdOf ByteArray.empty l0 x7_1)] (fun _ => True) (fun _ => False) rfl rfl ?aP (fun _ hk => hk.elim) ?aF ?aO ?aB ?aS ?aL ?_; (case aP => exact rfl); (case aB => exact (by repeat (first | (with_reducible first | exact HB.out | apply below_alloc | apply pw_below_drewN | apply below_drew1) | exact HB.out))); (case aF => exact (fun _ _ => trivial)); (case aO => exact (by (with_reducible repeat (first | apply Kd.R_alloc | apply Kd.R_drewN | apply Kd.R_drew)); exact HO183.out)); (case aS => exact (below_size (by repeat (first | (with_reducible first | exact HB.out | apply below_alloc | apply pw_below_drewN | apply below_drew1) | exact HB.out)))); (case aL => have := LMc12.out; omega); intro v186 w14 ho hb hg hat; rw [← Ny185.out] at ho; have n0_ := Aside0.mk (hb); have n1_ := Aside0.mk (ho); clear HB; clear HO183; have HB := n0_; have HO187 := n1_; clear n0_ n1_; clear ho hb hg hat))
         go_roundg k1
         case measure => have := HK1.out; omega
         case rel => exact ⟨(y185), (true), (wrap64 (x7_1 + 1)), (by first | rfl | (simp; done) | (simp [*]; done)), (by first | rfl | (simp; done) | (simp [*]; done)), H', ⟨by have := HK1.out; omega⟩, ⟨by (with_reducible repeat (first | apply Kd.R_alloc | apply Kd.R_drewN | apply Kd.R_drew)); exact HO187.out⟩, ⟨by repeat (first | (with_reducible first | exact HB.out | apply below_alloc | apply pw_below_drewN | apply below_drew1) | exact HB.out)⟩⟩
        ·rw [if_neg c12] at H
         exact absurd H (by simp)
       ·rw [if_neg c11] at H
        exact absurd H (by simp)
      ·replace c10 := Bool.eq_false_iff.mpr c10
       subst c10
       have H1 : (if x5_1.length < 8796093022208 then (letterlockref7_with.l0 k1 l0 a1 (x5_1 ++ [rdOf ByteArray.empty l0 x7_1]) false (wrap64 (x7_1 + 1))) else (none)) = some r := by rw [if_neg (show ¬ (false = true) by decide)] at H; exact H
       clear H
       have H := H1
       clear H1
       by_cases c15 : x5_1.length < 8796093022208
       ·rw [if_pos c15] at H
        have LMc15 := Aside0.mk c15
        clear c15
        obtain ⟨y189, hy189⟩ : ∃ y_ : List ByteArray, y_ = (x5_1 ++ [rdOf ByteArray.empty l0 x7_1]) := ⟨_, rfl⟩
        replace H : (letterlockref7_with.l0 k1 l0 a1 y189 false (wrap64 (x7_1 + 1))) = some r := by first | (rw [hy189]; with_reducible exact H) | (have H2_ := (Option.bind_some _ _).symm.trans H; rw [hy189]; with_reducible exact H2_) | (have H2_ := (Option.bind_some _ _).symm.trans H; with_reducible exact H2_) | with_reducible exact H | (rw [hy189]; exact H) | exact H
        have Ny189 := Aside0.mk hy189
        clear hy189
        have H' := Aside0.mk H
        clear H
        have p179 : 0 ≤ (x7_1 : Int) := of_decide_eq_true (by first | (with_reducible assumption) | assumption)
        have q179 : x7_1 < (l0.length : Int) := of_decide_eq_true (by first | (with_reducible assumption) | assumption)
        obtain ⟨ad179, e179, hx179_0⟩ := Kd.at_string HR0.out x7_1 p179 q179
        cases e179
        replace hx179_0 := (HB.out.cell (World.block_lt_of_cell? w _ hx179_0)).trans hx179_0
        replace p179 := eq_true p179
        replace q179 := eq_true q179
        go_wp2_with (first | (go_at_call 70; (with_reducible refine (letterlockref1_Less.calls k1 a1 (rdOf ByteArray.empty l0 x7_1) false _ A9.out).mono ?_); rintro e w' ⟨rfl, ⟨nd, rfl⟩⟩; have p188 : 0 ≤ (x7_1 : Int) := of_decide_eq_true (by first | (with_reducible assumption) | assumption); have q188 : x7_1 < (l0.length : Int) := of_decide_eq_true (by first | (with_reducible assumption) | assumption); obtain ⟨ad188, e188, hx188_0⟩ := Kd.at_string HR0.out x7_1 p188 q188; obtain rfl : ad179 = ad188 := (by injection e188); replace hx188_0 := (HB.out.cell (World.block_lt_of_cell? w _ hx188_0)).trans hx188_0; replace p188 := eq_true p188; replace q188 := eq_true q188) | ((with_reducible refine gate_builtin (b := .append) (xs := #[.tmp 28, .tmp 33]) rfl ?_); at_builtin; refine Kd.R_append Kd.string (w0 := w) w.heap.size rfl (.tmp 28) (.tmp 33) 24 9 (.string ⟨#[]⟩) 16 rfl Tryd.underlying24 info9 rfl (by decide) (by omega) u5 x5_1 (rdOf ByteArray.empty l0 x7_1) [.string (rdOf ByteArray.empty l0 x7_1)] (fun _ => True) (fun _ => False) rfl rfl ?aP (fun _ hk => hk.elim) ?aF ?aO ?aB ?aS ?aL ?_; (case aP => exact rfl); (case aB => exact (by repeat (first | (with_reducible first | exact HB.out | apply below_alloc | apply pw_below_drewN | apply below_drew1) | exact HB.out))); (case aF => exact (fun _ _ => trivial)); (case aO => exact (by (with_reducible repeat (first | apply Kd.R_alloc | apply Kd.R_drewN | apply Kd.R_drew)); exact HO_5.out)); (case aS => exact (below_size (by repeat (first | (with_reducible first | exact HB.out | apply below_alloc | apply pw_below_drewN | apply below_drew1) | exact HB.out)))); (case aL => have := LMc15.out; omega); intro v190 w16 ho hb hg hat; rw [← Ny189.out] at ho; have n0_ := Aside0.mk (hb); have n1_ := Aside0.mk (ho); clear HB; clear HO_5; have HB := n0_; have HO191 := n1_; clear n0_ n1_; clear ho hb hg hat))
        go_roundg k1
        case measure => have := HK1.out; omega
        case rel => exact ⟨(y189), (false), (wrap64 (x7_1 + 1)), (by first | rfl | (simp; done) | (simp [*]; done)), (by first | rfl | (simp; done) | (simp [*]; done)), H', ⟨by have := HK1.out; omega⟩, ⟨by (with_reducible repeat (first | apply Kd.R_alloc | apply Kd.R_drewN | apply Kd.R_drew)); exact HO191.out⟩, ⟨by repeat (first | (with_reducible first | exact HB.out | apply below_alloc | apply pw_below_drewN | apply below_drew1) | exact HB.out)⟩⟩
       ·rw [if_neg c15] at H
        exact absurd H (by simp)
     ·rw [if_neg c8] at H
      exact absurd H (by simp)
   ·rw [if_neg c3] at H
    have c3b0 : decide (x7_1 < (l0.length : Int)) = false := decide_eq_false c3
    clear c3
    by_cases c17 : x6_1 = true
    ·subst c17
     have H1 : (some x5_1) = some r := by rw [if_pos rfl] at H; exact H
     clear H
     have H := H1
     clear H1
     obtain rfl := Option.some.inj H
     go_wp2
     go_ret
     exact ⟨_, by first | rfl | (simp [errW_none, errW_some] <;> rfl) | (simp [*, errW_none, errW_some] <;> rfl), by (with_reducible repeat (first | apply Kd.R_alloc | apply Kd.R_drewN | apply Kd.R_drew)); exact HO_5.out, by repeat (first | (with_reducible first | exact HB.out | apply below_alloc | apply pw_below_drewN | apply below_drew1) | exact HB.out)⟩
    ·replace c17 := Bool.eq_false_iff.mpr c17
     subst c17
     have H1 : (if x5_1.length < 8796093022208 then (some (x5_1 ++ [a1])) else (none)) = some r := by rw [if_neg (show ¬ (false = true) by decide)] at H; exact H
     clear H
     have H := H1
     clear H1
     by_cases c18 : x5_1.length < 8796093022208
     ·rw [if_pos c18] at H
      have LMc18 := Aside0.mk c18
      clear c18
      obtain ⟨y192, hy192⟩ : ∃ y_ : List ByteArray, y_ = (x5_1 ++ [a1]) := ⟨_, rfl⟩
      replace H : (some y192) = some r := by first | (rw [hy192]; with_reducible exact H) | (have H2_ := (Option.bind_some _ _).symm.trans H; rw [hy192]; with_reducible exact H2_) | (have H2_ := (Option.bind_some _ _).symm.trans H; with_reducible exact H2_) | with_reducible exact H | (rw [hy192]; exact H) | exact H
      have Ny192 := Aside0.mk hy192
      clear hy192
      obtain rfl := Option.some.inj H
      go_wp2_with (first | ((with_reducible refine gate_builtin (b := .append) (xs := #[.tmp 37, .tmp 39]) rfl ?_); at_builtin; refine Kd.R_append Kd.string (w0 := w) w.heap.size rfl (.tmp 37) (.tmp 39) 24 9 (.string ⟨#[]⟩) 16 rfl Tryd.underlying24 info9 rfl (by decide) (by omega) u5 x5_1 a1 [.string a1] (fun _ => True) (fun _ => False) rfl rfl ?aP (fun _ hk => hk.elim) ?aF ?aO ?aB ?aS ?aL ?_; (case aP => exact rfl); (case aB => exact (by repeat (first | (with_reducible first | exact HB.out | apply below_alloc | apply pw_below_drewN | apply below_drew1) | exact HB.out))); (case aF => exact (fun _ _ => trivial)); (case aO => exact (by (with_reducible repeat (first | apply Kd.R_alloc | apply Kd.R_drewN | apply Kd.R_drew)); exact HO_5.out)); (case aS => exact (below_size (by repeat (first | (with_reducible first | exact HB.out | apply below_alloc | apply pw_below_drewN | apply below_drew1) | exact HB.out)))); (case aL => have := LMc18.out; omega); intro v193 w19 ho hb hg hat; rw [← Ny192.out] at ho; have n0_ := Aside0.mk (hb); have n1_ := Aside0.mk (ho); clear HB; clear HO_5; have HB := n0_; have HO194 := n1_; clear n0_ n1_; clear ho hb hg hat))
      go_ret
      exact ⟨_, by first | rfl | (simp [errW_none, errW_some] <;> rfl) | (simp [*, errW_none, errW_some] <;> rfl), by (with_reducible repeat (first | apply Kd.R_alloc | apply Kd.R_drewN | apply Kd.R_drew)); exact HO194.out, by repeat (first | (with_reducible first | exact HB.out | apply below_alloc | apply pw_below_drewN | apply below_drew1) | exact HB.out)⟩
     ·rw [if_neg c18] at H
      exact absurd H (by simp)
def letterlockref7_without.l0 : Nat → List ByteArray → ByteArray → List ByteArray → Int → Option (List ByteArray)
 | 0, _, _, _, _ => none
 | k + 1, x0, x1, x5, x6 => if x6 < (x0.length : Int) then (if 0 ≤ x6 then (if (rdOf ByteArray.empty x0 x6).toList = x1.toList then (letterlockref7_without.l0 k x0 x1 x5 (wrap64 (x6 + 1))) else (if x5.length < 8796093022208 then (letterlockref7_without.l0 k x0 x1 (x5 ++ [rdOf ByteArray.empty x0 x6]) (wrap64 (x6 + 1))) else (none))) else (none)) else (some x5)
def letterlockref7_without.f (k : Nat) (l0 : List ByteArray) (a1 : ByteArray) : Option (List ByteArray) := letterlockref7_without.l0 k l0 a1 ([] : List ByteArray) 0
set_option maxHeartbeats 8000000 in
set_option maxRecDepth 100000 in
theorem letterlockref7_without.calls (k : Nat) (A0 : Option Addr) (c0 : Nat) (l0 : List ByteArray) (a1 : ByteArray) (r : List ByteArray) (w : World) (hr0 : Kd.C Kd.string w A0 l0.length l0) (hc0 : l0.length ≤ c0) (h : letterlockref7_without.f k l0 a1 = some r) :
  Calls Tryd.prog 49 #[.slice A0 l0.length c0, .string a1] w fun e w' => ∃ v0_ : Value, e = .returned (v0_) ∧ Kd.R Kd.string 9 w' w.heap.size (fun _ => True) v0_ r ∧ Below w.heap.size w w' := by
 have HR0 := Aside0.mk hr0
 have HC0 := Aside0.mk hc0
 clear hr0 hc0
 have HB := Aside0.mk (Below.refl w.heap.size w)
 have H : (letterlockref7_without.l0 k l0 a1 ([] : List ByteArray) 0) = some r := h
 clear h
 have H' := Aside0.mk H
 clear H
 go_enter Tryd.func49, Tryd.ntmps49
 go_wp2
 go_loopg [5, 6] k (fun kq v5 v6 w' => ∃ (x5_1 : List ByteArray) (x6_1 : Int), v6 = .int .i64 x6_1 ∧ Aside0 (letterlockref7_without.l0 kq l0 a1 x5_1 x6_1 = some r) ∧ Aside0 (kq ≤ k) ∧ Aside0 (Kd.R Kd.string 9 w' w.heap.size (fun _ => True) v5 x5_1) ∧ Aside0 (Below w.heap.size w w'))
 case atStart => exact ⟨(([] : List ByteArray)), (0), (by first | rfl | (simp; done) | (simp [*]; done)), H', ⟨Nat.le_refl _⟩, ⟨by first | exact Kd.R_nil _ _ _ _ _ | exact Kd.N_nil _ _ _ _ _ | exact Kd.V_nil _ _ _ _ _ | exact Kd.Q_nil _ _ _ _ _ | exact Kd.S_nil _ _ _ _ _⟩, ⟨by repeat (first | (with_reducible first | exact HB.out | apply below_alloc | apply pw_below_drewN | apply below_drew1) | exact HB.out)⟩⟩
 case round =>
  clear H'
  try clear p2
  obtain ⟨x5_1, x6_1, rfl, HA, HK1, HO_5, HB⟩ := hrel
  cases gk with
  | zero => exact absurd HA.out (by simp [letterlockref7_without.l0])
  | succ k1 =>
   have H := HA.out
   clear HA
   simp only [letterlockref7_without.l0] at H
   by_cases c3 : x6_1 < (l0.length : Int)
   ·rw [if_pos c3] at H
    have c3b0 : decide (x6_1 < (l0.length : Int)) = true := decide_eq_true c3
    clear c3
    by_cases c4 : 0 ≤ x6_1
    ·rw [if_pos c4] at H
     have c4b0 : decide (0 ≤ x6_1) = true := decide_eq_true c4
     clear c4
     by_cases c5 : (rdOf ByteArray.empty l0 x6_1).toList = a1.toList
     ·rw [if_pos c5] at H
      have c5b0 : ((rdOf ByteArray.empty l0 x6_1).toList == a1.toList) = true := beq_iff_eq.mpr c5
      have c5b1 : ((rdOf ByteArray.empty l0 x6_1).toList != a1.toList) = false := bne_eq_false_iff_eq.mpr c5
      clear c5
      have H' := Aside0.mk H
      clear H
      have p195 : 0 ≤ (x6_1 : Int) := of_decide_eq_true (by first | (with_reducible assumption) | assumption)
      have q195 : x6_1 < (l0.length : Int) := of_decide_eq_true (by first | (with_reducible assumption) | assumption)
      obtain ⟨ad195, e195, hx195_0⟩ := Kd.at_string HR0.out x6_1 p195 q195
      cases e195
      replace hx195_0 := (HB.out.cell (World.block_lt_of_cell? w _ hx195_0)).trans hx195_0
      replace p195 := eq_true p195
      replace q195 := eq_true q195
      go_wp2
      go_roundg k1
      case measure => have := HK1.out; omega
      case rel => exact ⟨(x5_1), (wrap64 (x6_1 + 1)), (by first | rfl | (simp; done) | (simp [*]; done)), H', ⟨by have := HK1.out; omega⟩, ⟨by (with_reducible repeat (first | apply Kd.R_alloc | apply Kd.R_drewN | apply Kd.R_drew)); exact HO_5.out⟩, ⟨by repeat (first | (with_reducible first | exact HB.out | apply below_alloc | apply pw_below_drewN | apply below_drew1) | exact HB.out)⟩⟩
     ·rw [if_neg c5] at H
      have c5b0 : ((rdOf ByteArray.empty l0 x6_1).toList == a1.toList) = false := beq_eq_false_iff_ne.mpr c5
      have c5b1 : ((rdOf ByteArray.empty l0 x6_1).toList != a1.toList) = true := bne_iff_ne.mpr c5
      by_cases c6 : x5_1.length < 8796093022208
      ·rw [if_pos c6] at H
       have LMc6 := Aside0.mk c6
       clear c6
       obtain ⟨y197, hy197⟩ : ∃ y_ : List ByteArray, y_ = (x5_1 ++ [rdOf ByteArray.empty l0 x6_1]) := ⟨_, rfl⟩
       replace H : (letterlockref7_without.l0 k1 l0 a1 y197 (wrap64 (x6_1 + 1))) = some r := by first | (rw [hy197]; with_reducible exact H) | (have H2_ := (Option.bind_some _ _).symm.trans H; rw [hy197]; with_reducible exact H2_) | (have H2_ := (Option.bind_some _ _).symm.trans H; with_reducible exact H2_) | with_reducible exact H | (rw [hy197]; exact H) | exact H
       have Ny197 := Aside0.mk hy197
       clear hy197
       have H' := Aside0.mk H
       clear H
       have p195 : 0 ≤ (x6_1 : Int) := of_decide_eq_true (by first | (with_reducible assumption) | assumption)
       have q195 : x6_1 < (l0.length : Int) := of_decide_eq_true (by first | (with_reducible assumption) | assumption)
       obtain ⟨ad195, e195, hx195_0⟩ := Kd.at_string HR0.out x6_1 p195 q195
       cases e195
       replace hx195_0 := (HB.out.cell (World.block_lt_of_cell? w _ hx195_0)).trans hx195_0
       replace p195 := eq_true p195
       replace q195 := eq_true q195
       have p196 : 0 ≤ (x6_1 : Int) := of_decide_eq_true (by first | (with_reducible assumption) | assumption)
       have q196 : x6_1 < (l0.length : Int) := of_decide_eq_true (by first | (with_reducible assumption) | assumption)
       obtain ⟨ad196, e196, hx196_0⟩ := Kd.at_string HR0.out x6_1 p196 q196
       obtain rfl : ad195 = ad196 := (by injection e196)
       replace hx196_0 := (HB.out.cell (World.block_lt_of_cell? w _ hx196_0)).trans hx196_0
       replace p196 := eq_true p196
       replace q196 := eq_true q196
       go_wp2_with (first | ((with_reducible refine gate_builtin (b := .append) (xs := #[.tmp 19, .tmp 24]) rfl ?_); at_builtin; refine Kd.R_append Kd.string (w0 := w) w.heap.size rfl (.tmp 19) (.tmp 24) 24 9 (.string ⟨#[]⟩) 16 rfl Tryd.underlying24 info9 rfl (by decide) (by omega) u5 x5_1 (rdOf ByteArray.empty l0 x6_1) [.string (rdOf ByteArray.empty l0 x6_1)] (fun _ => True) (fun _ => False) rfl rfl ?aP (fun _ hk => hk.elim) ?aF ?aO ?aB ?aS ?aL ?_; (case aP => exact rfl); (case aB => exact (by repeat (first | (with_reducible first | exact HB.out | apply below_alloc | apply pw_below_drewN | apply below_drew1) | exact HB.out))); (case aF => exact (fun _ _ => trivial)); (case aO => exact (by (with_reducible repeat (first | apply Kd.R_alloc | apply Kd.R_drewN | apply Kd.R_drew)); exact HO_5.out)); (case aS => exact (below_size (by repeat (first | (with_reducible first | exact HB.out | apply below_alloc | apply pw_below_drewN | apply below_drew1) | exact HB.out)))); (case aL => have := LMc6.out; omega); intro v198 w7 ho hb hg hat; rw [← Ny197.out] at ho; have n0_ := Aside0.mk (hb); have n1_ := Aside0.mk (ho); clear HB; clear HO_5; have HB := n0_; have HO199 := n1_; clear n0_ n1_; clear ho hb hg hat))
       go_roundg k1
       case measure => have := HK1.out; omega
       case rel => exact ⟨(y197), (wrap64 (x6_1 + 1)), (by first | rfl | (simp; done) | (simp [*]; done)), H', ⟨by have := HK1.out; omega⟩, ⟨by (with_reducible repeat (first | apply Kd.R_alloc | apply Kd.R_drewN | apply Kd.R_drew)); exact HO199.out⟩, ⟨by repeat (first | (with_reducible first | exact HB.out | apply below_alloc | apply pw_below_drewN | apply below_drew1) | exact HB.out)⟩⟩
      ·rw [if_neg c6] at H
       exact absurd H (by simp)
    ·rw [if_neg c4] at H
     exact absurd H (by simp)
   ·rw [if_neg c3] at H
    have c3b0 : decide (x6_1 < (l0.length : Int)) = false := decide_eq_false c3
    clear c3
    obtain rfl := Option.some.inj H
    go_wp2
    go_ret
    exact ⟨_, by first | rfl | (simp [errW_none, errW_some] <;> rfl) | (simp [*, errW_none, errW_some] <;> rfl), by (with_reducible repeat (first | apply Kd.R_alloc | apply Kd.R_drewN | apply Kd.R_drew)); exact HO_5.out, by repeat (first | (with_reducible first | exact HB.out | apply below_alloc | apply pw_below_drewN | apply below_drew1) | exact HB.out)⟩
end Go.Proofs.YtfhanoloaejmkaaDoor.PA
end
