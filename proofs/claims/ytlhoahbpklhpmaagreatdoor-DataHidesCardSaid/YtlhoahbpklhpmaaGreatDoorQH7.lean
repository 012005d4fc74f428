/- Contracts and laws that the statement of LawDataHides leans on (packed from this claim's own texts): part 7. -/
import Derived.Test.YtlhoahbpklhpmaaGreatDoorProg
import Derived.Below
import Derived.Deep.Draws
import Derived.Deep.AppendLies
import Derived.Maps.AppendAt
import Derived.OwnWalk
import Derived.Laws.BytesArg
import Derived.Laws.MakeOwn
import Derived.Laws.OwnMore
import Derived.Deep.OwnRows
import Derived.Tactics
import Derived.Lib.ConvBytes
import Derived.Laws.Slices
import Derived.WalkKit
import Derived.KernelRfl
import Derived.RowKit3
import Derived.Deep.LoopGhost
import Derived.Deep.QuietTactic
import Derived.BigQuiet
import Derived.WideLaws
import Derived.Deep.DeepCutAuto
import Derived.Deep.CutBlock
import Derived.Deep.RegionHeld3
import Derived.Laws.Rows
import Derived.Lib.AppendStr
import Derived.ArgAppend
import Derived.Laws.IdiomCopy
import Derived.OrdersHeld
import Derived.Laws.BitsLemmas
import Derived.RowKit
import Derived.Laws.StructEq
import Derived.Defers
import Derived.Recover
import Derived.WalkLawsBesides
import Derived.Lib.Hide
import Derived.Lib.OthersKept
import Derived.Test.YtlhoahbpklhpmaaGreatDoorQH1
import Derived.Test.YtlhoahbpklhpmaaGreatDoorQH2
import Derived.Test.YtlhoahbpklhpmaaGreatDoorQH3
import Derived.Test.YtlhoahbpklhpmaaGreatDoorQH5
import Derived.Test.YtlhoahbpklhpmaaGreatDoorQH6
section

namespace Go.Proofs.YtlhoahbpklhpmaaGreatDoor.PA
open Go.RowKit Go.Proofs.YtlhoahbpklhpmaaGreatDoorW.PrintWords Go.Proofs.YtlhoahbpklhpmaaGreatDoorW.PrintLast Go.Proofs.YtlhoahbpklhpmaaGreatDoorW.PrintMore
attribute [local go_sem] max2_int min2_int max_two min_two max_three min_three max_four min_four   -- for this text's walks alone
set_option linter.unusedVariables false
set_option linter.unusedSimpArgs false
def errW : Option Int → Value
 | none => .nilIface
 | some c => .iface 0 (.int .i64 c)
theorem errW_none : errW none = .nilIface := rfl
theorem errW_some (c : Int) : errW (some c) = .iface 0 (.int .i64 c) := rfl
theorem info5 : (Tryz.prog.info? 5).map (fun i => (i.zero, i.size, i.bytes)) = some (some (.int .u8 0), 1, 1) := by kernel_rfl
theorem info9 : (Tryz.prog.info? 9).map (fun i => (i.zero, i.size, i.bytes)) = some (some (.string ⟨#[]⟩), 1, 16) := by kernel_rfl
end Go.Proofs.YtlhoahbpklhpmaaGreatDoor.PA
end
section

namespace Go.Proofs.YtlhoahbpklhpmaaGreatDoor.PA
open Go.RowKit Go.Proofs.YtlhoahbpklhpmaaGreatDoorW.PrintWords Go.Proofs.YtlhoahbpklhpmaaGreatDoorW.PrintLast Go.Proofs.YtlhoahbpklhpmaaGreatDoorW.PrintMore
attribute [local go_sem] max2_int min2_int max_two min_two max_three min_three max_four min_four   -- for this text's walks alone
set_option linter.unusedVariables false
set_option linter.unusedSimpArgs false
mutual
def letterlockref3_many.j0 : Nat → Int → Bool → Option (Int)
 | 0, _, _ => none
 | k + 1, x3, x4 => if x4 = true then (some 0) else (if x3 = 104 then (letterlockref3_many.j1 k x3 (x3 == 104)) else (letterlockref3_many.j1 k x3 (x3 == 117)))
def letterlockref3_many.j1 : Nat → Int → Bool → Option (Int)
 | 0, _, _ => none
 | k + 1, x3, x7 => if x7 = true then (some 1) else (if x3 = 112 then (some 2) else (if x3 = 115 then (some 2) else (if x3 = 98 then (some 2) else (if x3 = 103 then (some 2) else (some (-1))))))
end
def letterlockref3_many.f (k : Nat) (a0 : Int) : Option (Int) := if a0 = 97 then (letterlockref3_many.j0 k a0 (a0 == 97)) else (letterlockref3_many.j0 k a0 (a0 == 116))
theorem letterlockref3_many.mono_l : ∀ k, (∀ y0 y1, LeO (letterlockref3_many.j0 k y0 y1) (letterlockref3_many.j0 (k + 1) y0 y1)) ∧ (∀ y0 y1, LeO (letterlockref3_many.j1 k y0 y1) (letterlockref3_many.j1 (k + 1) y0 y1))
 | 0 => ⟨fun _ _ r h => by simp [letterlockref3_many.j0] at h, fun _ _ r h => by simp [letterlockref3_many.j1] at h⟩
 | k + 1 => by
  obtain ⟨ih0, ih1⟩ := letterlockref3_many.mono_l k
  refine ⟨?_, ?_⟩
  ·intro y0 y1
   unfold letterlockref3_many.j0
   repeat' first
   | (with_reducible exact ih0 _ _)
   | (with_reducible exact ih1 _ _)
   | (with_reducible exact LeO.refl _)
   | (with_reducible exact LeO.none _)
   | (with_reducible refine LeO.ite ?_ ?_)
   | (with_reducible refine LeO.bind ?_ (fun _ => ?_))
   | exact ih0 _ _
   | exact ih1 _ _
   | exact LeO.none _
   | refine LeO.ite ?_ ?_
   | refine LeO.bind ?_ (fun _ => ?_)
  ·intro y0 y1
   unfold letterlockref3_many.j1
   repeat' first
   | (with_reducible exact ih0 _ _)
   | (with_reducible exact ih1 _ _)
   | (with_reducible exact LeO.refl _)
   | (with_reducible exact LeO.none _)
   | (with_reducible refine LeO.ite ?_ ?_)
   | (with_reducible refine LeO.bind ?_ (fun _ => ?_))
   | exact ih0 _ _
   | exact ih1 _ _
   | exact LeO.none _
   | refine LeO.ite ?_ ?_
   | refine LeO.bind ?_ (fun _ => ?_)
theorem letterlockref3_many.mono : ∀ a0 k, LeO (letterlockref3_many.f k a0) (letterlockref3_many.f (k + 1) a0) := by
 intro a0 k
 obtain ⟨ih0, ih1⟩ := letterlockref3_many.mono_l k
 unfold letterlockref3_many.f
 repeat' first
   | (with_reducible exact ih0 _ _)
   | (with_reducible exact ih1 _ _)
   | (with_reducible exact LeO.refl _)
   | (with_reducible exact LeO.none _)
   | (with_reducible refine LeO.ite ?_ ?_)
   | (with_reducible refine LeO.bind ?_ (fun _ => ?_))
   | exact ih0 _ _
   | exact ih1 _ _
   | exact LeO.none _
   | refine LeO.ite ?_ ?_
   | refine LeO.bind ?_ (fun _ => ?_)
set_option maxHeartbeats 8000000 in
set_option maxRecDepth 100000 in
theorem letterlockref3_many.calls (k : Nat) (a0 : Int) (r : Int) (w : World) (h : letterlockref3_many.f k a0 = some r) :
  Calls Tryz.prog 73 #[.int .u8 a0] w fun e w' => e = .returned (.int .i64 r) ∧ Drawn0 w w' := by
 have H : (if a0 = 97 then (letterlockref3_many.j0 k a0 (a0 == 97)) else (letterlockref3_many.j0 k a0 (a0 == 116))) = some r := h
 clear h
 have HC2 := Aside0.mk H
 clear H
 go_enter Tryz.func73, Tryz.ntmps73
 go_upto_if 4 with (fail)
 go_cut [4] (fun v4 wc => ∃ (kq : Nat) (x4_1 : Bool), v4 = .bool x4_1 ∧ Aside0 (letterlockref3_many.j0 kq a0 x4_1 = some r) ∧ Aside0 (kq ≤ k) ∧ Drawn0 w wc)
 case first =>
  have H := HC2.out
  clear HC2
  by_cases c3 : a0 = 97
  ·rw [if_pos c3] at H
   have c3b0 : (a0 == 97) = true := beq_iff_eq.mpr c3
   have c3b1 : (a0 != 97) = false := bne_eq_false_iff_eq.mpr c3
   clear c3
   (first | rw [c3b0] | (simp only [i64_w, i32_w]; rw [c3b0]) | skip)
   have H' := Aside0.mk H
   clear H
   go_wp2
   go_meet
   case rel => exact ⟨_, ((a0 == 97)), (by first | rfl | (simp; done) | (simp [*]; done)), H', ⟨by first | omega | exact Nat.le_refl _⟩, by repeat (first | exact Drawn0.refl _ | apply Drawn0.step)⟩
  ·rw [if_neg c3] at H
   have c3b0 : (a0 == 97) = false := beq_eq_false_iff_ne.mpr c3
   have c3b1 : (a0 != 97) = true := bne_iff_ne.mpr c3
   (first | rw [c3b0] | (simp only [i64_w, i32_w]; rw [c3b0]) | skip)
   have H' := Aside0.mk H
   clear H
   go_wp2
   go_meet
   case rel => exact ⟨_, ((a0 == 116)), (by first | rfl | (simp; done) | (simp [*]; done)), H', ⟨by first | omega | exact Nat.le_refl _⟩, by repeat (first | exact Drawn0.refl _ | apply Drawn0.step)⟩
 case rest =>
  clear HC2
  try clear p2
  try clear c3
  try clear c3b0
  try clear c3b1
  obtain ⟨kq, x4_1, rfl, HA, HJ1, ⟨mc1, rfl⟩⟩ := hcut
  cases kq with
  | zero => exact absurd HA.out (by simp [letterlockref3_many.j0])
  | succ kj1 =>
   have H := HA.out
   clear HA
   simp only [letterlockref3_many.j0] at H
   by_cases c4 : x4_1 = true
   ·subst c4
    have H1 : (some 0) = some r := by rw [if_pos rfl] at H; exact H
    clear H
    have H := H1
    clear H1
    obtain rfl := Option.some.inj H
    go_wp2
    go_ret
    exact ⟨by first | rfl | (simp; done) | (simp [*]; done), by repeat (first | exact Drawn0.refl _ | apply Drawn0.step)⟩
   ·replace c4 := Bool.eq_false_iff.mpr c4
    subst c4
    have H1 : (if a0 = 104 then (letterlockref3_many.j1 kj1 a0 (a0 == 104)) else (letterlockref3_many.j1 kj1 a0 (a0 == 117))) = some r := by rw [if_neg (show ¬ (false = true) by decide)] at H; exact H
    clear H
    have H := H1
    clear H1
    have HC5 := Aside0.mk H
    clear H
    go_upto_if 7 with (fail)
    go_cut [7] (fun v7 wc => ∃ (kq : Nat) (x7_4 : Bool), v7 = .bool x7_4 ∧ Aside0 (letterlockref3_many.j1 kq a0 x7_4 = some r) ∧ Aside0 (kq ≤ kj1) ∧ Drawn0 w wc)
    case first =>
     have H := HC5.out
     clear HC5
     by_cases c6 : a0 = 104
     ·rw [if_pos c6] at H
      have c6b0 : (a0 == 104) = true := beq_iff_eq.mpr c6
      have c6b1 : (a0 != 104) = false := bne_eq_false_iff_eq.mpr c6
      clear c6
      (first | rw [c6b0] | (simp only [i64_w, i32_w]; rw [c6b0]) | skip)
      have H' := Aside0.mk H
      clear H
      go_wp2
      go_meet
      case rel => exact ⟨_, ((a0 == 104)), (by first | rfl | (simp; done) | (simp [*]; done)), H', ⟨by have := HJ1.out; first | omega | exact Nat.le_refl _⟩, by repeat (first | exact Drawn0.refl _ | apply Drawn0.step)⟩
     ·rw [if_neg c6] at H
      have c6b0 : (a0 == 104) = false := beq_eq_false_iff_ne.mpr c6
      have c6b1 : (a0 != 104) = true := bne_iff_ne.mpr c6
      (first | rw [c6b0] | (simp only [i64_w, i32_w]; rw [c6b0]) | skip)
      have H' := Aside0.mk H
      clear H
      go_wp2
      go_meet
      case rel => exact ⟨_, ((a0 == 117)), (by first | rfl | (simp; done) | (simp [*]; done)), H', ⟨by have := HJ1.out; first | omega | exact Nat.le_refl _⟩, by repeat (first | exact Drawn0.refl _ | apply Drawn0.step)⟩
    case rest =>
     clear HC5
     try clear c1
     try clear p2
     try clear c3
     try clear c3b0
     try clear c3b1
     try clear c4
     try clear c6
     try clear c6b0
     try clear c6b1
     try clear p2
     obtain ⟨kq, x7_4, rfl, HA, HJ4, ⟨mc4, rfl⟩⟩ := hcut
     cases kq with
     | zero => exact absurd HA.out (by simp [letterlockref3_many.j1])
     | succ kj4 =>
      have H := HA.out
      clear HA
      simp only [letterlockref3_many.j1] at H
      by_cases c7 : x7_4 = true
      ·subst c7
       have H1 : (some 1) = some r := by rw [if_pos rfl] at H; exact H
       clear H
       have H := H1
       clear H1
       obtain rfl := Option.some.inj H
       go_wp2
       go_ret
       exact ⟨by first | rfl | (simp; done) | (simp [*]; done), by repeat (first | exact Drawn0.refl _ | apply Drawn0.step)⟩
      ·replace c7 := Bool.eq_false_iff.mpr c7
       subst c7
       have H1 : (if a0 = 112 then (some 2) else (if a0 = 115 then (some 2) else (if a0 = 98 then (some 2) else (if a0 = 103 then (some 2) else (some (-1)))))) = some r := by rw [if_neg (show ¬ (false = true) by decide)] at H; exact H
       clear H
       have H := H1
       clear H1
       by_cases c8 : a0 = 112
       ·rw [if_pos c8] at H
        have c8b0 : (a0 == 112) = true := beq_iff_eq.mpr c8
        have c8b1 : (a0 != 112) = false := bne_eq_false_iff_eq.mpr c8
        clear c8
        obtain rfl := Option.some.inj H
        go_wp2
        go_ret
        exact ⟨by first | rfl | (simp; done) | (simp [*]; done), by repeat (first | exact Drawn0.refl _ | apply Drawn0.step)⟩
       ·rw [if_neg c8] at H
        have c8b0 : (a0 == 112) = false := beq_eq_false_iff_ne.mpr c8
        have c8b1 : (a0 != 112) = true := bne_iff_ne.mpr c8
        by_cases c9 : a0 = 115
        ·rw [if_pos c9] at H
         have c9b0 : (a0 == 115) = true := beq_iff_eq.mpr c9
         have c9b1 : (a0 != 115) = false := bne_eq_false_iff_eq.mpr c9
         clear c9
         obtain rfl := Option.some.inj H
         go_wp2
         go_ret
         exact ⟨by first | rfl | (simp; done) | (simp [*]; done), by repeat (first | exact Drawn0.refl _ | apply Drawn0.step)⟩
        ·rw [if_neg c9] at H
         have c9b0 : (a0 == 115) = false := beq_eq_false_iff_ne.mpr c9
         have c9b1 : (a0 != 115) = true := bne_iff_ne.mpr c9
         by_cases c10 : a0 = 98
         ·rw [if_pos c10] at H
          have c10b0 : (a0 == 98) = true := beq_iff_eq.mpr c10
          have c10b1 : (a0 != 98) = false := bne_eq_false_iff_eq.mpr c10
          clear c10
          obtain rfl := Option.some.inj H
          go_wp2
          go_ret
          exact ⟨by first | rfl | (simp; done) | (simp [*]; done), by repeat (first | exact Drawn0.refl _ | apply Drawn0.step)⟩
         ·rw [if_neg c10] at H
          have c10b0 : (a0 == 98) = false := beq_eq_false_iff_ne.mpr c10
          have c10b1 : (a0 != 98) = true := bne_iff_ne.mpr c10
          by_cases c11 : a0 = 103
          ·rw [if_pos c11] at H
           have c11b0 : (a0 == 103) = true := beq_iff_eq.mpr c11
           have c11b1 : (a0 != 103) = false := bne_eq_false_iff_eq.mpr c11
           clear c11
           obtain rfl := Option.some.inj H
           go_wp2
           go_ret
           exact ⟨by first | rfl | (simp; done) | (simp [*]; done), by repeat (first | exact Drawn0.refl _ | apply Drawn0.step)⟩
          ·rw [if_neg c11] at H
           have c11b0 : (a0 == 103) = false := beq_eq_false_iff_ne.mpr c11
           have c11b1 : (a0 != 103) = true := bne_iff_ne.mpr c11
           obtain rfl := Option.some.inj H
           go_wp2
           go_ret
           exact ⟨by first | rfl | (simp; done) | (simp [*]; done), by repeat (first | exact Drawn0.refl _ | apply Drawn0.step)⟩
mutual
def letterlockref2_Take.j0 : Nat → ByteArray → Bool → Option (Int × ByteArray × Int)
 | 0, _, _ => none
 | k + 1, x0, x33 => if x33 = true then (some (0, (⟨#[]⟩ : ByteArray), 2)) else (if 0 < (x0.size : Int) then (letterlockref2_Take.l0 k x0 0 (wrap64 (1 + (wrap64 (bt x0 0)))) 1) else (none))
def letterlockref2_Take.l0 : Nat → ByteArray → Int → Int → Int → Option (Int × ByteArray × Int)
 | 0, _, _, _, _ => none
 | k + 1, x0, x5, x6, x7 => if x7 < x6 then (if 0 ≤ x7 then (if x7 < (x0.size : Int) then (letterlockref2_Take.l0 k x0 (IntKind.u64.wrap ((IntKind.u64.wrap (256 * x5)) + (IntKind.u64.wrap (bt x0 x7)))) x6 (wrap64 (x7 + 1))) else (none)) else (none)) else (if 0 ≤ x6 then (if x6 ≤ (x0.size : Int) then (some (x5, x0.extract (x6 : Int).toNat x0.size, 0)) else (none)) else (none))
end
def letterlockref2_Take.f (k : Nat) (a0 : ByteArray) : Option (Int × ByteArray × Int) := if a0.toList = ([] : List UInt8) then (letterlockref2_Take.j0 k a0 true) else (if 0 < (a0.size : Int) then (if (bt a0 0) > 8 then (letterlockref2_Take.j0 k a0 true) else (if (a0.size : Int) < (wrap64 (1 + (wrap64 (bt a0 0)))) then (letterlockref2_Take.j0 k a0 true) else (if (bt a0 0) > 0 then (if 1 < (a0.size : Int) then (letterlockref2_Take.j0 k a0 ((bt a0 1) == 0)) else (none)) else (letterlockref2_Take.j0 k a0 false)))) else (none))
set_option maxHeartbeats 8000000 in
set_option maxRecDepth 100000 in
theorem letterlockref2_Take.calls (k : Nat) (a0 : ByteArray) (r1 : Int) (r2 : ByteArray) (r3 : Int) (w : World) (h : letterlockref2_Take.f k a0 = some (r1, r2, r3)) :
  Calls Tryz.prog 74 #[.string a0] w fun e w' => e = .returned (.tuple #[.int .u64 r1, .string r2, .int .i64 r3]) ∧ Drawn0 w w' := by
 have H : (if a0.toList = ([] : List UInt8) then (letterlockref2_Take.j0 k a0 true) else (if 0 < (a0.size : Int) then (if (bt a0 0) > 8 then (letterlockref2_Take.j0 k a0 true) else (if (a0.size : Int) < (wrap64 (1 + (wrap64 (bt a0 0)))) then (letterlockref2_Take.j0 k a0 true) else (if (bt a0 0) > 0 then (if 1 < (a0.size : Int) then (letterlockref2_Take.j0 k a0 ((bt a0 1) == 0)) else (none)) else (letterlockref2_Take.j0 k a0 false)))) else (none))) = some (r1, r2, r3) := h
 clear h
 have HC2 := Aside0.mk H
 clear H
 go_enter Tryz.func74, Tryz.ntmps74
 go_upto_region 1 with (fail)
 repeat (go_quiet (fail); go_upto_region 1 with (fail))
 go_cut [33] (fun v33 wc => ∃ (kq : Nat) (x33_1 : Bool), v33 = .bool x33_1 ∧ Aside0 (letterlockref2_Take.j0 kq a0 x33_1 = some (r1, r2, r3)) ∧ Aside0 (kq ≤ k) ∧ Drawn0 w wc)
 case first =>
  have H := HC2.out
  clear HC2
  by_cases c3 : a0.toList = ([] : List UInt8)
  ·rw [if_pos c3] at H
   have c3b0 : (a0.toList == ([] : List UInt8)) = true := beq_iff_eq.mpr c3
   have c3b1 : (a0.toList != ([] : List UInt8)) = false := bne_eq_false_iff_eq.mpr c3
   clear c3
   (first | rw [c3b0] | (simp only [i64_w, i32_w]; rw [c3b0]) | skip)
   have H' := Aside0.mk H
   clear H
   go_wp2
   repeat (go_quiet (fail); try go_wp2)
   go_meet
   case rel => exact ⟨_, (true), (by first | rfl | (simp; done) | (simp [*]; done)), H', ⟨by first | omega | exact Nat.le_refl _⟩, by repeat (first | exact Drawn0.refl _ | apply Drawn0.step)⟩
  ·rw [if_neg c3] at H
   have c3b0 : (a0.toList == ([] : List UInt8)) = false := beq_eq_false_iff_ne.mpr c3
   have c3b1 : (a0.toList != ([] : List UInt8)) = true := bne_iff_ne.mpr c3
   (first | rw [c3b0] | (simp only [i64_w, i32_w]; rw [c3b0]) | skip)
   by_cases c4 : 0 < (a0.size : Int)
   ·rw [if_pos c4] at H
    have c4b0 : decide (0 < (a0.size : Int)) = true := decide_eq_true c4
    have c4b1 : decide (0 < a0.size) = true := decide_eq_true (by omega)
    clear c4
    by_cases c6 : (bt a0 0) > 8
    ·rw [if_pos c6] at H
     have c6b0 : decide (8 < (bt a0 0)) = true := decide_eq_true c6
     clear c6
     have H' := Aside0.mk H
     clear H
     have p5 : 0 ≤ (0 : Int) := (by omega)
     have q5 : 0 < a0.size := (by have : (0 : Int) < (a0.size : Int) := of_decide_eq_true (by first | (with_reducible assumption) | assumption); omega)
     have hx5 : ∀ h : 0 < a0.size, ((a0[0]'h).toNat : Int) = bt a0 0 := bt_at a0 0
     clear p5
     have qi5 : (0 < (a0.size : Int)) = True := eq_true (of_decide_eq_true (by first | (with_reducible assumption) | assumption))
     replace q5 := eq_true q5
     go_wp2
     repeat (go_quiet (fail); try go_wp2)
     go_meet
     case rel => exact ⟨_, (true), (by first | rfl | (simp; done) | (simp [*]; done)), H', ⟨by first | omega | exact Nat.le_refl _⟩, by repeat (first | exact Drawn0.refl _ | apply Drawn0.step)⟩
    ·rw [if_neg c6] at H
     have c6b0 : decide (8 < (bt a0 0)) = false := decide_eq_false c6
     clear c6
     by_cases c8 : (a0.size : Int) < (wrap64 (1 + (wrap64 (bt a0 0))))
     ·rw [if_pos c8] at H
      have c8b0 : decide ((a0.size : Int) < (wrap64 (1 + (wrap64 (bt a0 0))))) = true := decide_eq_true c8
      clear c8
      have H' := Aside0.mk H
      clear H
      have p5 : 0 ≤ (0 : Int) := (by omega)
      have q5 : 0 < a0.size := (by have : (0 : Int) < (a0.size : Int) := of_decide_eq_true (by first | (with_reducible assumption) | assumption); omega)
      have hx5 : ∀ h : 0 < a0.size, ((a0[0]'h).toNat : Int) = bt a0 0 := bt_at a0 0
      clear p5
      have qi5 : (0 < (a0.size : Int)) = True := eq_true (of_decide_eq_true (by first | (with_reducible assumption) | assumption))
      replace q5 := eq_true q5
      have p7 : 0 ≤ (0 : Int) := (by omega)
      have q7 : 0 < a0.size := (by have : (0 : Int) < (a0.size : Int) := of_decide_eq_true (by first | (with_reducible assumption) | assumption); omega)
      have hx7 : ∀ h : 0 < a0.size, ((a0[0]'h).toNat : Int) = bt a0 0 := bt_at a0 0
      clear p7
      have qi7 : (0 < (a0.size : Int)) = True := eq_true (of_decide_eq_true (by first | (with_reducible assumption) | assumption))
      replace q7 := eq_true q7
      go_wp2
      repeat (go_quiet (fail); try go_wp2)
      go_meet
      case rel => exact ⟨_, (true), (by first | rfl | (simp; done) | (simp [*]; done)), H', ⟨by first | omega | exact Nat.le_refl _⟩, by repeat (first | exact Drawn0.refl _ | apply Drawn0.step)⟩
     ·rw [if_neg c8] at H
      have c8b0 : decide ((a0.size : Int) < (wrap64 (1 + (wrap64 (bt a0 0))))) = false := decide_eq_false c8
      clear c8
      by_cases c10 : (bt a0 0) > 0
      ·rw [if_pos c10] at H
       have c10b0 : decide (0 < (bt a0 0)) = true := decide_eq_true c10
       clear c10
       by_cases c11 : 1 < (a0.size : Int)
       ·rw [if_pos c11] at H
        have c11b0 : decide (1 < (a0.size : Int)) = true := decide_eq_true c11
        have c11b1 : decide (1 < a0.size) = true := decide_eq_true (by omega)
        clear c11
        have H' := Aside0.mk H
        clear H
        have p5 : 0 ≤ (0 : Int) := (by omega)
        have q5 : 0 < a0.size := (by have : (0 : Int) < (a0.size : Int) := of_decide_eq_true (by first | (with_reducible assumption) | assumption); omega)
        have hx5 : ∀ h : 0 < a0.size, ((a0[0]'h).toNat : Int) = bt a0 0 := bt_at a0 0
        clear p5
        have qi5 : (0 < (a0.size : Int)) = True := eq_true (of_decide_eq_true (by first | (with_reducible assumption) | assumption))
        replace q5 := eq_true q5
        have p7 : 0 ≤ (0 : Int) := (by omega)
        have q7 : 0 < a0.size := (by have : (0 : Int) < (a0.size : Int) := of_decide_eq_true (by first | (with_reducible assumption) | assumption); omega)
        have hx7 : ∀ h : 0 < a0.size, ((a0[0]'h).toNat : Int) = bt a0 0 := bt_at a0 0
        clear p7
        have qi7 : (0 < (a0.size : Int)) = True := eq_true (of_decide_eq_true (by first | (with_reducible assumption) | assumption))
        replace q7 := eq_true q7
        have p9 : 0 ≤ (0 : Int) := (by omega)
        have q9 : 0 < a0.size := (by have : (0 : Int) < (a0.size : Int) := of_decide_eq_true (by first | (with_reducible assumption) | assumption); omega)
        have hx9 : ∀ h : 0 < a0.size, ((a0[0]'h).toNat : Int) = bt a0 0 := bt_at a0 0
        clear p9
        have qi9 : (0 < (a0.size : Int)) = True := eq_true (of_decide_eq_true (by first | (with_reducible assumption) | assumption))
        replace q9 := eq_true q9
        have p12 : 0 ≤ (1 : Int) := (by omega)
        have q12 : 1 < a0.size := (by have : (1 : Int) < (a0.size : Int) := of_decide_eq_true (by first | (with_reducible assumption) | assumption); omega)
        have hx12 : ∀ h : 1 < a0.size, ((a0[1]'h).toNat : Int) = bt a0 1 := bt_at a0 1
        clear p12
        have qi12 : (1 < (a0.size : Int)) = True := eq_true (of_decide_eq_true (by first | (with_reducible assumption) | assumption))
        replace q12 := eq_true q12
        go_wp2
        repeat (go_quiet (fail); try go_wp2)
        go_meet
        case rel => exact ⟨_, (((bt a0 1) == 0)), (by first | rfl | (simp; done) | (simp [*]; done)), H', ⟨by first | omega | exact Nat.le_refl _⟩, by repeat (first | exact Drawn0.refl _ | apply Drawn0.step)⟩
       ·rw [if_neg c11] at H
        exact absurd H (by simp)
      ·rw [if_neg c10] at H
       have c10b0 : decide (0 < (bt a0 0)) = false := decide_eq_false c10
       clear c10
       have H' := Aside0.mk H
       clear H
       have p5 : 0 ≤ (0 : Int) := (by omega)
       have q5 : 0 < a0.size := (by have : (0 : Int) < (a0.size : Int) := of_decide_eq_true (by first | (with_reducible assumption) | assumption); omega)
       have hx5 : ∀ h : 0 < a0.size, ((a0[0]'h).toNat : Int) = bt a0 0 := bt_at a0 0
       clear p5
       have qi5 : (0 < (a0.size : Int)) = True := eq_true (of_decide_eq_true (by first | (with_reducible assumption) | assumption))
       replace q5 := eq_true q5
       have p7 : 0 ≤ (0 : Int) := (by omega)
       have q7 : 0 < a0.size := (by have : (0 : Int) < (a0.size : Int) := of_decide_eq_true (by first | (with_reducible assumption) | assumption); omega)
       have hx7 : ∀ h : 0 < a0.size, ((a0[0]'h).toNat : Int) = bt a0 0 := bt_at a0 0
       clear p7
       have qi7 : (0 < (a0.size : Int)) = True := eq_true (of_decide_eq_true (by first | (with_reducible assumption) | assumption))
       replace q7 := eq_true q7
       have p9 : 0 ≤ (0 : Int) := (by omega)
       have q9 : 0 < a0.size := (by have : (0 : Int) < (a0.size : Int) := of_decide_eq_true (by first | (with_reducible assumption) | assumption); omega)
       have hx9 : ∀ h : 0 < a0.size, ((a0[0]'h).toNat : Int) = bt a0 0 := bt_at a0 0
       clear p9
       have qi9 : (0 < (a0.size : Int)) = True := eq_true (of_decide_eq_true (by first | (with_reducible assumption) | assumption))
       replace q9 := eq_true q9
       go_wp2
       repeat (go_quiet (fail); try go_wp2)
       go_meet
       case rel => exact ⟨_, (false), (by first | rfl | (simp; done) | (simp [*]; done)), H', ⟨by first | omega | exact Nat.le_refl _⟩, by repeat (first | exact Drawn0.refl _ | apply Drawn0.step)⟩
   ·rw [if_neg c4] at H
    exact absurd H (by simp)
 case rest =>
  clear HC2
  try clear c1
  try clear p1
  try clear q1
  try clear hx1
  try clear qi1
  try clear p2
  try clear c3
  try clear c3b0
  try clear c3b1
  try clear c4
  try clear c4b0
  try clear c4b1
  try clear p5
  try clear q5
  try clear hx5
  try clear qi5
  try clear c6
  try clear c6b0
  try clear p6
  try clear c7
  try clear p7
  try clear q7
  try clear hx7
  try clear qi7
  try clear c8
  try clear c8b0
  try clear p9
  try clear q9
  try clear hx9
  try clear qi9
  try clear c10
  try clear c10b0
  try clear c11
  try clear c11b0
  try clear c11b1
  try clear p12
  try clear q12
  try clear hx12
  try clear qi12
  try clear p12
  try clear p5
  try clear p7
  try clear p9
  try clear q12
  try clear q5
  try clear q7
  try clear q9
  obtain ⟨kq, x33_1, rfl, HA, HJ1, ⟨mc1, rfl⟩⟩ := hcut
  cases kq with
  | zero => exact absurd HA.out (by simp [letterlockref2_Take.j0])
  | succ kj1 =>
   have H := HA.out
   clear HA
   simp only [letterlockref2_Take.j0] at H
   by_cases c13 : x33_1 = true
   ·subst c13
    have H1 : (some (0, (⟨#[]⟩ : ByteArray), 2)) = some (r1, r2, r3) := by rw [if_pos rfl] at H; exact H
    clear H
    have H := H1
    clear H1
    simp only [Option.some.injEq, Prod.mk.injEq] at H
    obtain ⟨rfl, rfl, rfl⟩ := H
    go_wp2
    repeat (go_quiet (fail); try go_wp2)
    go_ret3
    exact ⟨by first | rfl | (simp; done) | (simp [*]; done), by repeat (first | exact Drawn0.refl _ | apply Drawn0.step)⟩
   ·replace c13 := Bool.eq_false_iff.mpr c13
    subst c13
    have H1 : (if 0 < (a0.size : Int) then (letterlockref2_Take.l0 kj1 a0 0 (wrap64 (1 + (wrap64 (bt a0 0)))) 1) else (none)) = some (r1, r2, r3) := by rw [if_neg (show ¬ (false = true) by decide)] at H; exact H
    clear H
    have H := H1
    clear H1
    by_cases c14 : 0 < (a0.size : Int)
    ·rw [if_pos c14] at H
     have c14b0 : decide (0 < (a0.size : Int)) = true := decide_eq_true c14
     have c14b1 : decide (0 < a0.size) = true := decide_eq_true (by omega)
     clear c14
     have H' := Aside0.mk H
     clear H
     have p15 : 0 ≤ (0 : Int) := (by omega)
     have q15 : 0 < a0.size := (by have : (0 : Int) < (a0.size : Int) := of_decide_eq_true (by first | (with_reducible assumption) | assumption); omega)
     have hx15 : ∀ h : 0 < a0.size, ((a0[0]'h).toNat : Int) = bt a0 0 := bt_at a0 0
     clear p15
     have qi15 : (0 < (a0.size : Int)) = True := eq_true (of_decide_eq_true (by first | (with_reducible assumption) | assumption))
     replace q15 := eq_true q15
     go_wp2
     repeat (go_quiet (fail); try go_wp2)
     go_loopg [5, 7] kj1 (fun kq v5 v7 w' => ∃ (x5_2 : Int) (x7_2 : Int), v5 = .int .u64 x5_2 ∧ v7 = .int .i64 x7_2 ∧ Aside0 (letterlockref2_Take.l0 kq a0 x5_2 (wrap64 (1 + (wrap64 (bt a0 0)))) x7_2 = some (r1, r2, r3)) ∧ Aside0 (kq ≤ kj1) ∧ Drawn0 w w')
     case atStart => exact ⟨(0), (1), (by first | rfl | (simp; done) | (simp [*]; done)), (by first | rfl | (simp; done) | (simp [*]; done)), H', ⟨Nat.le_refl _⟩, by repeat (first | exact Drawn0.refl _ | apply Drawn0.step)⟩
     case round =>
      clear H'
      try clear c1
      try clear p1
      try clear q1
      try clear hx1
      try clear qi1
      try clear p2
      try clear c3
      try clear c3b0
      try clear c3b1
      try clear c4
      try clear c4b0
      try clear c4b1
      try clear p5
      try clear q5
      try clear hx5
      try clear qi5
      try clear c6
      try clear c6b0
      try clear p6
      try clear c7
      try clear p7
      try clear q7
      try clear hx7
      try clear qi7
      try clear c8
      try clear c8b0
      try clear p9
      try clear q9
      try clear hx9
      try clear qi9
      try clear c10
      try clear c10b0
      try clear c11
      try clear c11b0
      try clear c11b1
      try clear p12
      try clear q12
      try clear hx12
      try clear qi12
      try clear c13
      try clear c14
      try clear c14b0
      try clear c14b1
      try clear p15
      try clear q15
      try clear hx15
      try clear qi15
      try clear p1
      try clear p12
      try clear p15
      try clear p2
      try clear p5
      try clear p6
      try clear p7
      try clear p9
      try clear q1
      try clear q12
      try clear q15
      try clear q5
      try clear q7
      try clear q9
      obtain ⟨x5_2, x7_2, rfl, rfl, HA, HK2, ⟨m2, rfl⟩⟩ := hrel
      cases gk with
      | zero => exact absurd HA.out (by simp [letterlockref2_Take.l0])
      | succ k2 =>
       have H := HA.out
       clear HA
       simp only [letterlockref2_Take.l0] at H
       by_cases c16 : x7_2 < (wrap64 (1 + (wrap64 (bt a0 0))))
       ·rw [if_pos c16] at H
        have c16b0 : decide (x7_2 < (wrap64 (1 + (wrap64 (bt a0 0))))) = true := decide_eq_true c16
        clear c16
        by_cases c17 : 0 ≤ x7_2
        ·rw [if_pos c17] at H
         have c17b0 : decide (0 ≤ x7_2) = true := decide_eq_true c17
         clear c17
         by_cases c18 : x7_2 < (a0.size : Int)
         ·rw [if_pos c18] at H
          have c18b0 : decide (x7_2 < (a0.size : Int)) = true := decide_eq_true c18
          clear c18
          have H' := Aside0.mk H
          clear H
          have p19 : 0 ≤ (x7_2 : Int) := of_decide_eq_true (by first | (with_reducible assumption) | assumption)
          have q19 : x7_2 < (a0.size : Int) := of_decide_eq_true (by first | (with_reducible assumption) | assumption)
          have hx19 := bt_at a0 x7_2
          replace p19 := eq_true p19
          replace q19 := eq_true q19
          go_wp2
          repeat (go_quiet (fail); try go_wp2)
          go_roundg k2
          case measure => have := HJ1.out; have := HK2.out; omega
          case rel => exact ⟨(IntKind.u64.wrap ((IntKind.u64.wrap (256 * x5_2)) + (IntKind.u64.wrap (bt a0 x7_2)))), (wrap64 (x7_2 + 1)), (by first | rfl | (simp; done) | (simp [*]; done)), (by first | rfl | (simp; done) | (simp [*]; done)), H', ⟨by have := HJ1.out; have := HK2.out; omega⟩, by repeat (first | exact Drawn0.refl _ | apply Drawn0.step)⟩
         ·rw [if_neg c18] at H
          exact absurd H (by simp)
        ·rw [if_neg c17] at H
         exact absurd H (by simp)
       ·rw [if_neg c16] at H
        have c16b0 : decide (x7_2 < (wrap64 (1 + (wrap64 (bt a0 0))))) = false := decide_eq_false c16
        clear c16
        obtain ⟨ji20, hji20⟩ : ∃ j_ : Int, (wrap64 (1 + (wrap64 (bt a0 0)))) = j_ := ⟨_, rfl⟩
        replace H : (if 0 ≤ (ji20) then (if (ji20) ≤ (a0.size : Int) then (some (x5_2, a0.extract ((ji20) : Int).toNat a0.size, 0)) else (none)) else (none)) = some (r1, r2, r3) := by first | (rw [hji20] at H; exact H) | (simp only [hji20] at H ⊢; exact H)
        (try rw [hji20] at c16b0)
        have hji20w : (IntKind.i64.wrap (1 + (wrap64 (bt a0 0)))) = ji20 := (i64_w _).trans hji20
        by_cases c21 : 0 ≤ (ji20)
        ·rw [if_pos c21] at H
         have c21b0 := eq_true c21
         have c21b1 : decide (0 ≤ (ji20)) = true := decide_eq_true c21
         clear c21
         by_cases c22 : (ji20) ≤ (a0.size : Int)
         ·rw [if_pos c22] at H
          have c22b0 := eq_true c22
          have c22b1 : decide ((ji20) ≤ (a0.size : Int)) = true := decide_eq_true c22
          clear c22
          simp only [Option.some.injEq, Prod.mk.injEq] at H
          obtain ⟨rfl, rfl, rfl⟩ := H
          go_wp2
          repeat (go_quiet (fail); try go_wp2)
          go_ret3
          exact ⟨by first | rfl | (simp; done) | (simp only [← hji20] <;> (first | rfl | simp)) | (simp [*]; done), by repeat (first | exact Drawn0.refl _ | apply Drawn0.step)⟩
         ·rw [if_neg c22] at H
          exact absurd H (by simp)
        ·rw [if_neg c21] at H
         exact absurd H (by simp)
    ·rw [if_neg c14] at H
     exact absurd H (by simp)
def letterlockref2_TakeText.f (k : Nat) (a0 : ByteArray) (a1 : Int) : Option (ByteArray × ByteArray × Int) := (letterlockref2_Take.f k a0).bind fun bt153 => (if bt153.2.2 = 0 then (if bt153.1 > (IntKind.u64.wrap (mx a1 0)) then (some ((⟨#[]⟩ : ByteArray), (⟨#[]⟩ : ByteArray), 10)) else (if bt153.1 > (IntKind.u64.wrap ((bt153.2.1.size : Int))) then (some ((⟨#[]⟩ : ByteArray), (⟨#[]⟩ : ByteArray), 2)) else (if 0 ≤ bt153.1 then (if bt153.1 ≤ (bt153.2.1.size : Int) then (some (bt153.2.1.extract 0 (bt153.1 : Int).toNat, bt153.2.1.extract (bt153.1 : Int).toNat bt153.2.1.size, 0)) else (none)) else (none)))) else (some ((⟨#[]⟩ : ByteArray), (⟨#[]⟩ : ByteArray), bt153.2.2)))
set_option maxHeartbeats 8000000 in
set_option maxRecDepth 100000 in
theorem letterlockref2_TakeText.calls (k : Nat) (a0 : ByteArray) (a1 : Int) (r1 : ByteArray) (r2 : ByteArray) (r3 : Int) (w : World) (h : letterlockref2_TakeText.f k a0 a1 = some (r1, r2, r3)) :
  Calls Tryz.prog 75 #[.string a0, .int .i64 a1] w fun e w' => e = .returned (.tuple #[.string r1, .string r2, .int .i64 r3]) ∧ Below w.heap.size w w' := by
 have HB := Aside0.mk (Below.refl w.heap.size w)
 have H : ((letterlockref2_Take.f k a0).bind fun bt153 => (if bt153.2.2 = 0 then (if bt153.1 > (IntKind.u64.wrap (mx a1 0)) then (some ((⟨#[]⟩ : ByteArray), (⟨#[]⟩ : ByteArray), 10)) else (if bt153.1 > (IntKind.u64.wrap ((bt153.2.1.size : Int))) then (some ((⟨#[]⟩ : ByteArray), (⟨#[]⟩ : ByteArray), 2)) else (if 0 ≤ bt153.1 then (if bt153.1 ≤ (bt153.2.1.size : Int) then (some (bt153.2.1.extract 0 (bt153.1 : Int).toNat, bt153.2.1.extract (bt153.1 : Int).toNat bt153.2.1.size, 0)) else (none)) else (none)))) else (some ((⟨#[]⟩ : ByteArray), (⟨#[]⟩ : ByteArray), bt153.2.2)))) = some (r1, r2, r3) := h
 clear h
 replace H := Option.bind_eq_some_iff.mp H
 obtain ⟨⟨t153, t154, t155⟩, A30, H⟩ := H
 replace H : (if t155 = 0 then (if t153 > (IntKind.u64.wrap (mx a1 0)) then (some ((⟨#[]⟩ : ByteArray), (⟨#[]⟩ : ByteArray), 10)) else (if t153 > (IntKind.u64.wrap ((t154.size : Int))) then (some ((⟨#[]⟩ : ByteArray), (⟨#[]⟩ : ByteArray), 2)) else (if 0 ≤ t153 then (if t153 ≤ (t154.size : Int) then (some (t154.extract 0 (t153 : Int).toNat, t154.extract (t153 : Int).toNat t154.size, 0)) else (none)) else (none)))) else (some ((⟨#[]⟩ : ByteArray), (⟨#[]⟩ : ByteArray), t155))) = some (r1, r2, r3) := H
 have A3 := Aside0.mk A30
 clear A30
 by_cases c4 : t155 = 0
 ·rw [if_pos c4] at H
  have c4b0 : (t155 == 0) = true := beq_iff_eq.mpr c4
  have c4b1 : (t155 != 0) = false := bne_eq_false_iff_eq.mpr c4
  clear c4
  obtain ⟨ji5, hji5⟩ : ∃ j_ : Int, (mx a1 0) = j_ := ⟨_, rfl⟩
  replace H : (if t153 > (IntKind.u64.wrap (ji5)) then (some ((⟨#[]⟩ : ByteArray), (⟨#[]⟩ : ByteArray), 10)) else (if t153 > (IntKind.u64.wrap ((t154.size : Int))) then (some ((⟨#[]⟩ : ByteArray), (⟨#[]⟩ : ByteArray), 2)) else (if 0 ≤ t153 then (if t153 ≤ (t154.size : Int) then (some (t154.extract 0 (t153 : Int).toNat, t154.extract (t153 : Int).toNat t154.size, 0)) else (none)) else (none)))) = some (r1, r2, r3) := by first | (rw [hji5] at H; exact H) | (simp only [hji5] at H ⊢; exact H)
  (try rw [hji5] at A3)
  (try (have hji5l : 0 ≤ ji5 := by (rw [← hji5]; unfold mx; (repeat' split) <;> omega)))
  (try (have hji5m : 0 ≤ ji5 := by omega))
  have hji5_ : (if a1 < 0 then 0 else a1) = ji5 := hji5
  by_cases c6 : t153 > (IntKind.u64.wrap (ji5))
  ·rw [if_pos c6] at H
   have c6b0 : decide ((IntKind.u64.wrap (ji5)) < t153) = true := decide_eq_true c6
   clear c6
   simp only [Option.some.injEq, Prod.mk.injEq] at H
   obtain ⟨rfl, rfl, rfl⟩ := H
   go_enter Tryz.func75, Tryz.ntmps75
   go_wp2_with (first | (go_at_call 74; (with_reducible refine (letterlockref2_Take.calls k a0 t153 t154 t155 _ A3.out).mono ?_); rintro e w' ⟨rfl, ⟨nd, rfl⟩⟩; (try first | exact ⟨rfl, _, World.drewN_drewN _ _ _⟩ | exact ⟨rfl, _, Eq.trans (World.drewN_drewN _ _ _) (congrArg (World.drewN _) (Nat.add_assoc _ _ _))⟩)))
   repeat (go_quiet (first | (go_at_call 74; (with_reducible refine (letterlockref2_Take.calls k a0 t153 t154 t155 _ A3.out).mono ?_); rintro e w' ⟨rfl, ⟨nd, rfl⟩⟩; (try first | exact ⟨rfl, _, World.drewN_drewN _ _ _⟩ | exact ⟨rfl, _, Eq.trans (World.drewN_drewN _ _ _) (congrArg (World.drewN _) (Nat.add_assoc _ _ _))⟩))); try go_wp2_with (first | (go_at_call 74; (with_reducible refine (letterlockref2_Take.calls k a0 t153 t154 t155 _ A3.out).mono ?_); rintro e w' ⟨rfl, ⟨nd, rfl⟩⟩; (try first | exact ⟨rfl, _, World.drewN_drewN _ _ _⟩ | exact ⟨rfl, _, Eq.trans (World.drewN_drewN _ _ _) (congrArg (World.drewN _) (Nat.add_assoc _ _ _))⟩))))
   go_ret3
   exact ⟨by first | rfl | (simp [errW_none, errW_some] <;> rfl) | (simp only [← hji5]; first | rfl | (simp [errW_none, errW_some] <;> rfl)) | (simp [*, errW_none, errW_some] <;> rfl), by repeat (first | (with_reducible first | exact HB.out | apply below_alloc | apply pw_below_drewN | apply below_drew1) | exact HB.out)⟩
  ·rw [if_neg c6] at H
   have c6b0 : decide ((IntKind.u64.wrap (ji5)) < t153) = false := decide_eq_false c6
   clear c6
   by_cases c7 : t153 > (IntKind.u64.wrap ((t154.size : Int)))
   ·rw [if_pos c7] at H
    have c7b0 : decide ((IntKind.u64.wrap ((t154.size : Int))) < t153) = true := decide_eq_true c7
    clear c7
    simp only [Option.some.injEq, Prod.mk.injEq] at H
    obtain ⟨rfl, rfl, rfl⟩ := H
    go_enter Tryz.func75, Tryz.ntmps75
    go_wp2_with (first | (go_at_call 74; (with_reducible refine (letterlockref2_Take.calls k a0 t153 t154 t155 _ A3.out).mono ?_); rintro e w' ⟨rfl, ⟨nd, rfl⟩⟩; (try first | exact ⟨rfl, _, World.drewN_drewN _ _ _⟩ | exact ⟨rfl, _, Eq.trans (World.drewN_drewN _ _ _) (congrArg (World.drewN _) (Nat.add_assoc _ _ _))⟩)))
    repeat (go_quiet (first | (go_at_call 74; (with_reducible refine (letterlockref2_Take.calls k a0 t153 t154 t155 _ A3.out).mono ?_); rintro e w' ⟨rfl, ⟨nd, rfl⟩⟩; (try first | exact ⟨rfl, _, World.drewN_drewN _ _ _⟩ | exact ⟨rfl, _, Eq.trans (World.drewN_drewN _ _ _) (congrArg (World.drewN _) (Nat.add_assoc _ _ _))⟩))); try go_wp2_with (first | (go_at_call 74; (with_reducible refine (letterlockref2_Take.calls k a0 t153 t154 t155 _ A3.out).mono ?_); rintro e w' ⟨rfl, ⟨nd, rfl⟩⟩; (try first | exact ⟨rfl, _, World.drewN_drewN _ _ _⟩ | exact ⟨rfl, _, Eq.trans (World.drewN_drewN _ _ _) (congrArg (World.drewN _) (Nat.add_assoc _ _ _))⟩))))
    go_ret3
    exact ⟨by first | rfl | (simp [errW_none, errW_some] <;> rfl) | (simp only [← hji5]; first | rfl | (simp [errW_none, errW_some] <;> rfl)) | (simp [*, errW_none, errW_some] <;> rfl), by repeat (first | (with_reducible first | exact HB.out | apply below_alloc | apply pw_below_drewN | apply below_drew1) | exact HB.out)⟩
   ·rw [if_neg c7] at H
    have c7b0 : decide ((IntKind.u64.wrap ((t154.size : Int))) < t153) = false := decide_eq_false c7
    clear c7
    by_cases c8 : 0 ≤ t153
    ·rw [if_pos c8] at H
     have c8b0 := eq_true c8
     have c8b1 : decide (0 ≤ t153) = true := decide_eq_true c8
     clear c8
     by_cases c9 : t153 ≤ (t154.size : Int)
     ·rw [if_pos c9] at H
      have c9b0 := eq_true c9
      have c9b1 : decide (t153 ≤ (t154.size : Int)) = true := decide_eq_true c9
      clear c9
      have c10b0 := eq_true (of_decide_eq_true (by first | (with_reducible assumption) | assumption) : 0 ≤ t153)
      have c11b0 := eq_true (of_decide_eq_true (by first | (with_reducible assumption) | assumption) : t153 ≤ (t154.size : Int))
      simp only [Option.some.injEq, Prod.mk.injEq] at H
      obtain ⟨rfl, rfl, rfl⟩ := H
      go_enter Tryz.func75, Tryz.ntmps75
      go_wp2_with (first | (go_at_call 74; (with_reducible refine (letterlockref2_Take.calls k a0 t153 t154 t155 _ A3.out).mono ?_); rintro e w' ⟨rfl, ⟨nd, rfl⟩⟩; (try first | exact ⟨rfl, _, World.drewN_drewN _ _ _⟩ | exact ⟨rfl, _, Eq.trans (World.drewN_drewN _ _ _) (congrArg (World.drewN _) (Nat.add_assoc _ _ _))⟩)))
      repeat (go_quiet (first | (go_at_call 74; (with_reducible refine (letterlockref2_Take.calls k a0 t153 t154 t155 _ A3.out).mono ?_); rintro e w' ⟨rfl, ⟨nd, rfl⟩⟩; (try first | exact ⟨rfl, _, World.drewN_drewN _ _ _⟩ | exact ⟨rfl, _, Eq.trans (World.drewN_drewN _ _ _) (congrArg (World.drewN _) (Nat.add_assoc _ _ _))⟩))); try go_wp2_with (first | (go_at_call 74; (with_reducible refine (letterlockref2_Take.calls k a0 t153 t154 t155 _ A3.out).mono ?_); rintro e w' ⟨rfl, ⟨nd, rfl⟩⟩; (try first | exact ⟨rfl, _, World.drewN_drewN _ _ _⟩ | exact ⟨rfl, _, Eq.trans (World.drewN_drewN _ _ _) (congrArg (World.drewN _) (Nat.add_assoc _ _ _))⟩))))
      go_ret3
      exact ⟨by first | rfl | (simp [errW_none, errW_some] <;> rfl) | (simp only [← hji5]; first | rfl | (simp [errW_none, errW_some] <;> rfl)) | (simp [*, errW_none, errW_some] <;> rfl), by repeat (first | (with_reducible first | exact HB.out | apply below_alloc | apply pw_below_drewN | apply below_drew1) | exact HB.out)⟩
     ·rw [if_neg c9] at H
      exact absurd H (by simp)
    ·rw [if_neg c8] at H
     exact absurd H (by simp)
 ·rw [if_neg c4] at H
  have c4b0 : (t155 == 0) = false := beq_eq_false_iff_ne.mpr c4
  have c4b1 : (t155 != 0) = true := bne_iff_ne.mpr c4
  simp only [Option.some.injEq, Prod.mk.injEq] at H
  obtain ⟨rfl, rfl, rfl⟩ := H
  go_enter Tryz.func75, Tryz.ntmps75
  go_wp2_with (first | (go_at_call 74; (with_reducible refine (letterlockref2_Take.calls k a0 t153 t154 t155 _ A3.out).mono ?_); rintro e w' ⟨rfl, ⟨nd, rfl⟩⟩; (try first | exact ⟨rfl, _, World.drewN_drewN _ _ _⟩ | exact ⟨rfl, _, Eq.trans (World.drewN_drewN _ _ _) (congrArg (World.drewN _) (Nat.add_assoc _ _ _))⟩)))
  repeat (go_quiet (first | (go_at_call 74; (with_reducible refine (letterlockref2_Take.calls k a0 t153 t154 t155 _ A3.out).mono ?_); rintro e w' ⟨rfl, ⟨nd, rfl⟩⟩; (try first | exact ⟨rfl, _, World.drewN_drewN _ _ _⟩ | exact ⟨rfl, _, Eq.trans (World.drewN_drewN _ _ _) (congrArg (World.drewN _) (Nat.add_assoc _ _ _))⟩))); try go_wp2_with (first | (go_at_call 74; (with_reducible refine (letterlockref2_Take.calls k a0 t153 t154 t155 _ A3.out).mono ?_); rintro e w' ⟨rfl, ⟨nd, rfl⟩⟩; (try first | exact ⟨rfl, _, World.drewN_drewN _ _ _⟩ | exact ⟨rfl, _, Eq.trans (World.drewN_drewN _ _ _) (congrArg (World.drewN _) (Nat.add_assoc _ _ _))⟩))))
  go_ret3
  exact ⟨by first | rfl | (simp [errW_none, errW_some] <;> rfl) | (simp [*, errW_none, errW_some] <;> rfl), by repeat (first | (with_reducible first | exact HB.out | apply below_alloc | apply pw_below_drewN | apply below_drew1) | exact HB.out)⟩
end Go.Proofs.YtlhoahbpklhpmaaGreatDoor.PA
end
section

namespace Go.Proofs.YtlhoahbpklhpmaaGreatDoor.PA
open Go.RowKit Go.Proofs.YtlhoahbpklhpmaaGreatDoorW.PrintWords Go.Proofs.YtlhoahbpklhpmaaGreatDoorW.PrintLast Go.Proofs.YtlhoahbpklhpmaaGreatDoorW.PrintMore
attribute [local go_sem] max2_int min2_int max_two min_two max_three min_three max_four min_four   -- for this text's walks alone
set_option linter.unusedVariables false
set_option linter.unusedSimpArgs false
mutual
def letterlockref3_size.j0 : Nat → ByteArray → Int → Bool → Option (Int)
 | 0, _, _, _ => none
 | k + 1, x0, x1, x22 => if x22 = true then (some 0) else (if 0 < (x0.size : Int) then (if (bt x0 0) = 97 then (letterlockref3_size.j1 k x0 x1 true) else (letterlockref3_size.j1 k x0 x1 ((bt x0 0) == 116))) else (none))
def letterlockref3_size.j1 : Nat → ByteArray → Int → Bool → Option (Int)
 | 0, _, _, _ => none
 | k + 1, x0, x1, x30 => if x30 = true then (if 1 ≤ (x0.size : Int) then ((letterlockref2_Take.f k (x0.extract 1 x0.size)).bind fun bt157 => (if 0 < (x0.size : Int) then (if (bt x0 0) = 116 then ((letterlockref2_TakeText.f k (x0.extract 1 x0.size) 4000).bind fun bt160 => (if bt160.2.2 = 0 then (some (wrap64 ((x0.size : Int) - (bt160.2.1.size : Int)))) else (some 0))) else (if bt157.2.2 = 0 then (some (wrap64 ((x0.size : Int) - (bt157.2.1.size : Int)))) else (some 0))) else (none))) else (none)) else (letterlockref3_size.l0 k x0 x1 1 0)
def letterlockref3_size.l0 : Nat → ByteArray → Int → Int → Int → Option (Int)
 | 0, _, _, _, _ => none
 | k + 1, x0, x1, x8, x9 => if 0 < (x0.size : Int) then ((letterlockref3_many.f k (bt x0 0)).bind fun t163 => (if x9 < t163 then (if (bt x0 0) = 98 then (if x9 = 0 then (if x8 ≥ (x0.size : Int) then (letterlockref3_size.j3 k x0 x1 x8 x9 true) else (if 0 ≤ x8 then (if x8 < (x0.size : Int) then (letterlockref3_size.j3 k x0 x1 x8 x9 ((bt x0 x8) != 117)) else (none)) else (none))) else (letterlockref3_size.j3 k x0 x1 x8 x9 false)) else (letterlockref3_size.j3 k x0 x1 x8 x9 false)) else (some x8))) else (none)
def letterlockref3_size.j3 : Nat → ByteArray → Int → Int → Int → Bool → Option (Int)
 | 0, _, _, _, _, _ => none
 | k + 1, x0, x1, x8, x9, x80 => if x80 = true then (some 0) else (if 0 ≤ x8 then (if x8 ≤ (x0.size : Int) then ((letterlockref3_size.f k (x0.extract (x8 : Int).toNat x0.size) (wrap64 (x1 - 1))).bind fun t164 => (if t164 = 0 then (some 0) else (letterlockref3_size.l0 k x0 x1 (wrap64 (x8 + t164)) (wrap64 (x9 + 1))))) else (none)) else (none))
def letterlockref3_size.f : Nat → ByteArray → Int → Option (Int)
 | 0, _, _ => none
 | k + 1, a0, a1 => if a0.toList = ([] : List UInt8) then (letterlockref3_size.j0 k a0 a1 true) else (if a1 = 0 then (letterlockref3_size.j0 k a0 a1 true) else (if 0 < (a0.size : Int) then ((letterlockref3_many.f k (bt a0 0)).bind fun t156 => (letterlockref3_size.j0 k a0 a1 (decide (t156 < 0)))) else (none)))
end
set_option maxHeartbeats 8000000 in
set_option maxRecDepth 100000 in
theorem letterlockref3_size.calls (k : Nat) : ∀ (a0 : ByteArray) (a1 : Int) (r : Int) (w : World) (h : letterlockref3_size.f k a0 a1 = some r),
  Calls Tryz.prog 51 #[.string a0, .int .i64 a1] w fun e w' => e = .returned (.int .i64 r) ∧ Below w.heap.size w w' := by
 induction k using Nat.strongRecOn with
 | _ k ih =>
 intro a0 a1 r w h
 cases k with
 | zero => exact absurd h (by simp [letterlockref3_size.f])
 | succ k =>
 simp only [letterlockref3_size.f] at h
 have HB := Aside0.mk (Below.refl w.heap.size w)
 have H : (if a0.toList = ([] : List UInt8) then (letterlockref3_size.j0 k a0 a1 true) else (if a1 = 0 then (letterlockref3_size.j0 k a0 a1 true) else (if 0 < (a0.size : Int) then ((letterlockref3_many.f k (bt a0 0)).bind fun t156 => (letterlockref3_size.j0 k a0 a1 (decide (t156 < 0)))) else (none)))) = some r := h
 clear h
 have HC3 := Aside0.mk H
 clear H
 go_enter Tryz.func51, Tryz.ntmps51
 go_upto_region 1 with (fail)
 go_cut [22] (fun v22 wc => ∃ (kq : Nat) (x22_2 : Bool), v22 = .bool x22_2 ∧ Aside0 (letterlockref3_size.j0 kq a0 a1 x22_2 = some r) ∧ Aside0 (kq ≤ k) ∧ Aside0 (Below w.heap.size w wc))
 case first =>
  have H := HC3.out
  clear HC3
  by_cases c4 : a0.toList = ([] : List UInt8)
  ·rw [if_pos c4] at H
   have c4b0 : (a0.toList == ([] : List UInt8)) = true := beq_iff_eq.mpr c4
   have c4b1 : (a0.toList != ([] : List UInt8)) = false := bne_eq_false_iff_eq.mpr c4
   clear c4
   (first | rw [c4b0] | (simp only [i64_w, i32_w]; rw [c4b0]) | skip)
   have H' := Aside0.mk H
   clear H
   go_wp2
   go_meet
   case rel => exact ⟨_, (true), (by first | rfl | (simp; done) | (simp [*]; done)), H', ⟨by first | omega | exact Nat.le_refl _⟩, ⟨by repeat (first | (with_reducible first | exact HB.out | apply below_alloc | apply pw_below_drewN | apply below_drew1) | exact HB.out)⟩⟩
  ·rw [if_neg c4] at H
   have c4b0 : (a0.toList == ([] : List UInt8)) = false := beq_eq_false_iff_ne.mpr c4
   have c4b1 : (a0.toList != ([] : List UInt8)) = true := bne_iff_ne.mpr c4
   (first | rw [c4b0] | (simp only [i64_w, i32_w]; rw [c4b0]) | skip)
   by_cases c5 : a1 = 0
   ·rw [if_pos c5] at H
    have c5b0 : (a1 == 0) = true := beq_iff_eq.mpr c5
    have c5b1 : (a1 != 0) = false := bne_eq_false_iff_eq.mpr c5
    clear c5
    have H' := Aside0.mk H
    clear H
    go_wp2
    go_meet
    case rel => exact ⟨_, (true), (by first | rfl | (simp; done) | (simp [*]; done)), H', ⟨by first | omega | exact Nat.le_refl _⟩, ⟨by repeat (first | (with_reducible first | exact HB.out | apply below_alloc | apply pw_below_drewN | apply below_drew1) | exact HB.out)⟩⟩
   ·rw [if_neg c5] at H
    have c5b0 : (a1 == 0) = false := beq_eq_false_iff_ne.mpr c5
    have c5b1 : (a1 != 0) = true := bne_iff_ne.mpr c5
    by_cases c6 : 0 < (a0.size : Int)
    ·rw [if_pos c6] at H
     have c6b0 : decide (0 < (a0.size : Int)) = true := decide_eq_true c6
     have c6b1 : decide (0 < a0.size) = true := decide_eq_true (by omega)
     clear c6
     replace H := Option.bind_eq_some_iff.mp H
     obtain ⟨t156, A80, H⟩ := H
     replace H : (letterlockref3_size.j0 k a0 a1 (decide (t156 < 0))) = some r := H
     have A8 := Aside0.mk A80
     clear A80
     have H' := Aside0.mk H
     clear H
     have p7 : 0 ≤ (0 : Int) := (by omega)
     have q7 : 0 < a0.size := (by have : (0 : Int) < (a0.size : Int) := of_decide_eq_true (by first | (with_reducible assumption) | assumption); omega)
     have hx7 : ∀ h : 0 < a0.size, ((a0[0]'h).toNat : Int) = bt a0 0 := bt_at a0 0
     clear p7
     have qi7 : (0 < (a0.size : Int)) = True := eq_true (of_decide_eq_true (by first | (with_reducible assumption) | assumption))
     replace q7 := eq_true q7
     go_wp2_with (first | (go_at_call 73; (with_reducible refine (letterlockref3_many.calls k (bt a0 0) t156 _ A8.out).mono ?_); rintro e w' ⟨rfl, ⟨nd, rfl⟩⟩))
     go_meet
     case rel => exact ⟨_, (decide (t156 < 0)), (by first | rfl | (simp; done) | (simp [*]; done)), H', ⟨by first | omega | exact Nat.le_refl _⟩, ⟨by repeat (first | (with_reducible first | exact HB.out | apply below_alloc | apply pw_below_drewN | apply below_drew1) | exact HB.out)⟩⟩
    ·rw [if_neg c6] at H
     exact absurd H (by simp)
 case rest =>
  clear HC3
  try clear p2
  try clear c4
  try clear c4b0
  try clear c4b1
  try clear c5
  try clear c5b0
  try clear c5b1
  try clear c6
  try clear c6b0
  try clear c6b1
  try clear p7
  try clear q7
  try clear hx7
  try clear qi7
  try clear p7
  try clear q7
  obtain ⟨kq, x22_2, rfl, HA, HJ2, HB⟩ := hcut
  cases kq with
  | zero => exact absurd HA.out (by simp [letterlockref3_size.j0])
  | succ kj2 =>
   have H := HA.out
   clear HA
   simp only [letterlockref3_size.j0] at H
   by_cases c9 : x22_2 = true
   ·subst c9
    have H1 : (some 0) = some r := by rw [if_pos rfl] at H; exact H
    clear H
    have H := H1
    clear H1
    obtain rfl := Option.some.inj H
    go_wp2
    go_ret
    exact ⟨by first | rfl | (simp [errW_none, errW_some] <;> rfl) | (simp [*, errW_none, errW_some] <;> rfl), by repeat (first | (with_reducible first | exact HB.out | apply below_alloc | apply pw_below_drewN | apply below_drew1) | exact HB.out)⟩
   ·replace c9 := Bool.eq_false_iff.mpr c9
    subst c9
    have H1 : (if 0 < (a0.size : Int) then (if (bt a0 0) = 97 then (letterlockref3_size.j1 kj2 a0 a1 true) else (letterlockref3_size.j1 kj2 a0 a1 ((bt a0 0) == 116))) else (none)) = some r := by rw [if_neg (show ¬ (false = true) by decide)] at H; exact H
    clear H
    have H := H1
    clear H1
    have HC10 := Aside0.mk H
    clear H
    go_upto_region 3 with (fail)
    go_cut [30] (fun v30 wc => ∃ (kq : Nat) (x30_9 : Bool), v30 = .bool x30_9 ∧ Aside0 (letterlockref3_size.j1 kq a0 a1 x30_9 = some r) ∧ Aside0 (kq ≤ kj2) ∧ Aside0 (Below w.heap.size w wc))
    case first =>
     have H := HC10.out
     clear HC10
     by_cases c11 : 0 < (a0.size : Int)
     ·rw [if_pos c11] at H
      have c11b0 : decide (0 < (a0.size : Int)) = true := decide_eq_true c11
      have c11b1 : decide (0 < a0.size) = true := decide_eq_true (by omega)
      clear c11
      (first | rw [c11b0] | (simp only [i64_w, i32_w]; rw [c11b0]) | skip)
      by_cases c13 : (bt a0 0) = 97
      ·rw [if_pos c13] at H
       have c13b0 : ((bt a0 0) == 97) = true := beq_iff_eq.mpr c13
       have c13b1 : ((bt a0 0) != 97) = false := bne_eq_false_iff_eq.mpr c13
       clear c13
       have H' := Aside0.mk H
       clear H
       have p12 : 0 ≤ (0 : Int) := (by omega)
       have q12 : 0 < a0.size := (by have : (0 : Int) < (a0.size : Int) := of_decide_eq_true (by first | (with_reducible assumption) | assumption); omega)
       have hx12 : ∀ h : 0 < a0.size, ((a0[0]'h).toNat : Int) = bt a0 0 := bt_at a0 0
       clear p12
       have qi12 : (0 < (a0.size : Int)) = True := eq_true (of_decide_eq_true (by first | (with_reducible assumption) | assumption))
       replace q12 := eq_true q12
       go_wp2
       go_meet
       case rel => exact ⟨_, (true), (by first | rfl | (simp; done) | (simp [*]; done)), H', ⟨by have := HJ2.out; first | omega | exact Nat.le_refl _⟩, ⟨by repeat (first | (with_reducible first | exact HB.out | apply below_alloc | apply pw_below_drewN | apply below_drew1) | exact HB.out)⟩⟩
      ·rw [if_neg c13] at H
       have c13b0 : ((bt a0 0) == 97) = false := beq_eq_false_iff_ne.mpr c13
       have c13b1 : ((bt a0 0) != 97) = true := bne_iff_ne.mpr c13
       have H' := Aside0.mk H
       clear H
       have p12 : 0 ≤ (0 : Int) := (by omega)
       have q12 : 0 < a0.size := (by have : (0 : Int) < (a0.size : Int) := of_decide_eq_true (by first | (with_reducible assumption) | assumption); omega)
       have hx12 : ∀ h : 0 < a0.size, ((a0[0]'h).toNat : Int) = bt a0 0 := bt_at a0 0
       clear p12
       have qi12 : (0 < (a0.size : Int)) = True := eq_true (of_decide_eq_true (by first | (with_reducible assumption) | assumption))
       replace q12 := eq_true q12
       have p14 : 0 ≤ (0 : Int) := (by omega)
       have q14 : 0 < a0.size := (by have : (0 : Int) < (a0.size : Int) := of_decide_eq_true (by first | (with_reducible assumption) | assumption); omega)
       have hx14 : ∀ h : 0 < a0.size, ((a0[0]'h).toNat : Int) = bt a0 0 := bt_at a0 0
       clear p14
       have qi14 : (0 < (a0.size : Int)) = True := eq_true (of_decide_eq_true (by first | (with_reducible assumption) | assumption))
       replace q14 := eq_true q14
       go_wp2
       go_meet
       case rel => exact ⟨_, (((bt a0 0) == 116)), (by first | rfl | (simp; done) | (simp [*]; done)), H', ⟨by have := HJ2.out; first | omega | exact Nat.le_refl _⟩, ⟨by repeat (first | (with_reducible first | exact HB.out | apply below_alloc | apply pw_below_drewN | apply below_drew1) | exact HB.out)⟩⟩
     ·rw [if_neg c11] at H
      exact absurd H (by simp)
    case rest =>
     clear HC10
     try clear c1
     try clear p1
     try clear q1
     try clear hx1
     try clear qi1
     try clear p2
     try clear c4
     try clear c4b0
     try clear c4b1
     try clear c5
     try clear c5b0
     try clear c5b1
     try clear c6
     try clear c6b0
     try clear c6b1
     try clear p7
     try clear q7
     try clear hx7
     try clear qi7
     try clear c9
     try clear c11
     try clear c11b0
     try clear c11b1
     try clear p12
     try clear q12
     try clear hx12
     try clear qi12
     try clear c13
     try clear c13b0
     try clear c13b1
     try clear p14
     try clear q14
     try clear hx14
     try clear qi14
     try clear p12
     try clear p14
     try clear p2
     try clear p7
     try clear q12
     try clear q14
     try clear q7
     obtain ⟨kq, x30_9, rfl, HA, HJ9, HB⟩ := hcut
     cases kq with
     | zero => exact absurd HA.out (by simp [letterlockref3_size.j1])
     | succ kj9 =>
      have H := HA.out
      clear HA
      simp only [letterlockref3_size.j1] at H
      by_cases c15 : x30_9 = true
      ·subst c15
       have H1 : (if 1 ≤ (a0.size : Int) then ((letterlockref2_Take.f kj9 (a0.extract 1 a0.size)).bind fun bt157 => (if 0 < (a0.size : Int) then (if (bt a0 0) = 116 then ((letterlockref2_TakeText.f kj9 (a0.extract 1 a0.size) 4000).bind fun bt160 => (if bt160.2.2 = 0 then (some (wrap64 ((a0.size : Int) - (bt160.2.1.size : Int)))) else (some 0))) else (if bt157.2.2 = 0 then (some (wrap64 ((a0.size : Int) - (bt157.2.1.size : Int)))) else (some 0))) else (none))) else (none)) = some r := by rw [if_pos rfl] at H; exact H
       clear H
       have H := H1
       clear H1
       by_cases c16 : 1 ≤ (a0.size : Int)
       ·rw [if_pos c16] at H
        have c16b0 := eq_true c16
        have c16b1 : decide (1 ≤ (a0.size : Int)) = true := decide_eq_true c16
        clear c16
        replace H := Option.bind_eq_some_iff.mp H
        obtain ⟨⟨t157, t158, t159⟩, A170, H⟩ := H
        replace H : (if 0 < (a0.size : Int) then (if (bt a0 0) = 116 then ((letterlockref2_TakeText.f kj9 (a0.extract 1 a0.size) 4000).bind fun bt160 => (if bt160.2.2 = 0 then (some (wrap64 ((a0.size : Int) - (bt160.2.1.size : Int)))) else (some 0))) else (if t159 = 0 then (some (wrap64 ((a0.size : Int) - (t158.size : Int)))) else (some 0))) else (none)) = some r := H
        have A17 := Aside0.mk A170
        clear A170
        by_cases c18 : 0 < (a0.size : Int)
        ·rw [if_pos c18] at H
         have c18b0 : decide (0 < (a0.size : Int)) = true := decide_eq_true c18
         have c18b1 : decide (0 < a0.size) = true := decide_eq_true (by omega)
         clear c18
         by_cases c20 : (bt a0 0) = 116
         ·rw [if_pos c20] at H
          have c20b0 : ((bt a0 0) == 116) = true := beq_iff_eq.mpr c20
          have c20b1 : ((bt a0 0) != 116) = false := bne_eq_false_iff_eq.mpr c20
          clear c20
          have c21b0 := eq_true (of_decide_eq_true (by first | (with_reducible assumption) | assumption) : 1 ≤ (a0.size : Int))
          replace H := Option.bind_eq_some_iff.mp H
          obtain ⟨⟨t160, t161, t162⟩, A220, H⟩ := H
          replace H : (if t162 = 0 then (some (wrap64 ((a0.size : Int) - (t161.size : Int)))) else (some 0)) = some r := H
          have A22 := Aside0.mk A220
          clear A220
          by_cases c23 : t162 = 0
          ·rw [if_pos c23] at H
           have c23b0 : (t162 == 0) = true := beq_iff_eq.mpr c23
           have c23b1 : (t162 != 0) = false := bne_eq_false_iff_eq.mpr c23
           clear c23
           obtain rfl := Option.some.inj H
           go_wp2_with (first | ((with_reducible refine gate_callee (f := 74) rfl ?_); refine goesL_ (some 34) rfl rfl Tryz.func74 (by kernel_rfl) rfl #[.string (a0.extract 1 a0.size)] rfl (by (try simp only [List.map_toArray, List.map_cons, List.map_nil]); first | done | rfl | (simp only [List.length_drop, List.length_take]; rfl)) ?_; (with_reducible refine (letterlockref2_Take.calls kj9 (a0.extract 1 a0.size) t157 t158 t159 _ A17.out).mono ?_); rintro e w' ⟨rfl, ⟨nd, rfl⟩⟩; refine ⟨_, rfl, ?_⟩; have p19 : 0 ≤ (0 : Int) := (by omega); have q19 : 0 < a0.size := (by have : (0 : Int) < (a0.size : Int) := of_decide_eq_true (by first | (with_reducible assumption) | assumption); omega); have hx19 : ∀ h : 0 < a0.size, ((a0[0]'h).toNat : Int) = bt a0 0 := bt_at a0 0; clear p19; have qi19 : (0 < (a0.size : Int)) = True := eq_true (of_decide_eq_true (by first | (with_reducible assumption) | assumption)); replace q19 := eq_true q19) | ((with_reducible refine gate_callee (f := 75) rfl ?_); refine goesL_ (some 44) rfl rfl Tryz.func75 (by kernel_rfl) rfl #[.string (a0.extract 1 a0.size), .int .i64 4000] rfl (by (try simp only [List.map_toArray, List.map_cons, List.map_nil]); first | done | rfl | (simp only [List.length_drop, List.length_take]; rfl)) ?_; (with_reducible refine (letterlockref2_TakeText.calls kj9 (a0.extract 1 a0.size) 4000 t160 t161 t162 _ A22.out).mono ?_); rintro e w24 ⟨rfl, hb⟩; refine ⟨_, rfl, ?_⟩; have n0_ := Aside0.mk (below_step (by repeat (first | (with_reducible first | exact HB.out | apply below_alloc | apply pw_below_drewN | apply below_drew1) | exact HB.out)) hb); clear HB; have HB := n0_; clear n0_; (try clear hb); (try clear hb2); (try clear hk); (try clear hi)))
           go_ret
           exact ⟨by first | rfl | (simp [errW_none, errW_some] <;> rfl) | (simp [*, errW_none, errW_some] <;> rfl), by repeat (first | (with_reducible first | exact HB.out | apply below_alloc | apply pw_below_drewN | apply below_drew1) | exact HB.out)⟩
          ·rw [if_neg c23] at H
           have c23b0 : (t162 == 0) = false := beq_eq_false_iff_ne.mpr c23
           have c23b1 : (t162 != 0) = true := bne_iff_ne.mpr c23
           obtain rfl := Option.some.inj H
           go_wp2_with (first | ((with_reducible refine gate_callee (f := 74) rfl ?_); refine goesL_ (some 34) rfl rfl Tryz.func74 (by kernel_rfl) rfl #[.string (a0.extract 1 a0.size)] rfl (by (try simp only [List.map_toArray, List.map_cons, List.map_nil]); first | done | rfl | (simp only [List.length_drop, List.length_take]; rfl)) ?_; (with_reducible refine (letterlockref2_Take.calls kj9 (a0.extract 1 a0.size) t157 t158 t159 _ A17.out).mono ?_); rintro e w' ⟨rfl, ⟨nd, rfl⟩⟩; refine ⟨_, rfl, ?_⟩; have p19 : 0 ≤ (0 : Int) := (by omega); have q19 : 0 < a0.size := (by have : (0 : Int) < (a0.size : Int) := of_decide_eq_true (by first | (with_reducible assumption) | assumption); omega); have hx19 : ∀ h : 0 < a0.size, ((a0[0]'h).toNat : Int) = bt a0 0 := bt_at a0 0; clear p19; have qi19 : (0 < (a0.size : Int)) = True := eq_true (of_decide_eq_true (by first | (with_reducible assumption) | assumption)); replace q19 := eq_true q19) | ((with_reducible refine gate_callee (f := 75) rfl ?_); refine goesL_ (some 44) rfl rfl Tryz.func75 (by kernel_rfl) rfl #[.string (a0.extract 1 a0.size), .int .i64 4000] rfl (by (try simp only [List.map_toArray, List.map_cons, List.map_nil]); first | done | rfl | (simp only [List.length_drop, List.length_take]; rfl)) ?_; (with_reducible refine (letterlockref2_TakeText.calls kj9 (a0.extract 1 a0.size) 4000 t160 t161 t162 _ A22.out).mono ?_); rintro e w25 ⟨rfl, hb⟩; refine ⟨_, rfl, ?_⟩; have n0_ := Aside0.mk (below_step (by repeat (first | (with_reducible first | exact HB.out | apply below_alloc | apply pw_below_drewN | apply below_drew1) | exact HB.out)) hb); clear HB; have HB := n0_; clear n0_; (try clear hb); (try clear hb2); (try clear hk); (try clear hi)))
           go_ret
           exact ⟨by first | rfl | (simp [errW_none, errW_some] <;> rfl) | (simp [*, errW_none, errW_some] <;> rfl), by repeat (first | (with_reducible first | exact HB.out | apply below_alloc | apply pw_below_drewN | apply below_drew1) | exact HB.out)⟩
         ·rw [if_neg c20] at H
          have c20b0 : ((bt a0 0) == 116) = false := beq_eq_false_iff_ne.mpr c20
          have c20b1 : ((bt a0 0) != 116) = true := bne_iff_ne.mpr c20
          by_cases c26 : t159 = 0
          ·rw [if_pos c26] at H
           have c26b0 : (t159 == 0) = true := beq_iff_eq.mpr c26
           have c26b1 : (t159 != 0) = false := bne_eq_false_iff_eq.mpr c26
           clear c26
           obtain rfl := Option.some.inj H
           go_wp2_with (first | ((with_reducible refine gate_callee (f := 74) rfl ?_); refine goesL_ (some 34) rfl rfl Tryz.func74 (by kernel_rfl) rfl #[.string (a0.extract 1 a0.size)] rfl (by (try simp only [List.map_toArray, List.map_cons, List.map_nil]); first | done | rfl | (simp only [List.length_drop, List.length_take]; rfl)) ?_; (with_reducible refine (letterlockref2_Take.calls kj9 (a0.extract 1 a0.size) t157 t158 t159 _ A17.out).mono ?_); rintro e w' ⟨rfl, ⟨nd, rfl⟩⟩; refine ⟨_, rfl, ?_⟩; have p19 : 0 ≤ (0 : Int) := (by omega); have q19 : 0 < a0.size := (by have : (0 : Int) < (a0.size : Int) := of_decide_eq_true (by first | (with_reducible assumption) | assumption); omega); have hx19 : ∀ h : 0 < a0.size, ((a0[0]'h).toNat : Int) = bt a0 0 := bt_at a0 0; clear p19; have qi19 : (0 < (a0.size : Int)) = True := eq_true (of_decide_eq_true (by first | (with_reducible assumption) | assumption)); replace q19 := eq_true q19))
           go_ret
           exact ⟨by first | rfl | (simp [errW_none, errW_some] <;> rfl) | (simp [*, errW_none, errW_some] <;> rfl), by repeat (first | (with_reducible first | exact HB.out | apply below_alloc | apply pw_below_drewN | apply below_drew1) | exact HB.out)⟩
          ·rw [if_neg c26] at H
           have c26b0 : (t159 == 0) = false := beq_eq_false_iff_ne.mpr c26
           have c26b1 : (t159 != 0) = true := bne_iff_ne.mpr c26
           obtain rfl := Option.some.inj H
           go_wp2_with (first | ((with_reducible refine gate_callee (f := 74) rfl ?_); refine goesL_ (some 34) rfl rfl Tryz.func74 (by kernel_rfl) rfl #[.string (a0.extract 1 a0.size)] rfl (by (try simp only [List.map_toArray, List.map_cons, List.map_nil]); first | done | rfl | (simp only [List.length_drop, List.length_take]; rfl)) ?_; (with_reducible refine (letterlockref2_Take.calls kj9 (a0.extract 1 a0.size) t157 t158 t159 _ A17.out).mono ?_); rintro e w' ⟨rfl, ⟨nd, rfl⟩⟩; refine ⟨_, rfl, ?_⟩; have p19 : 0 ≤ (0 : Int) := (by omega); have q19 : 0 < a0.size := (by have : (0 : Int) < (a0.size : Int) := of_decide_eq_true (by first | (with_reducible assumption) | assumption); omega); have hx19 : ∀ h : 0 < a0.size, ((a0[0]'h).toNat : Int) = bt a0 0 := bt_at a0 0; clear p19; have qi19 : (0 < (a0.size : Int)) = True := eq_true (of_decide_eq_true (by first | (with_reducible assumption) | assumption)); replace q19 := eq_true q19))
           go_ret
           exact ⟨by first | rfl | (simp [errW_none, errW_some] <;> rfl) | (simp [*, errW_none, errW_some] <;> rfl), by repeat (first | (with_reducible first | exact HB.out | apply below_alloc | apply pw_below_drewN | apply below_drew1) | exact HB.out)⟩
        ·rw [if_neg c18] at H
         exact absurd H (by simp)
       ·rw [if_neg c16] at H
        exact absurd H (by simp)
      ·replace c15 := Bool.eq_false_iff.mpr c15
       subst c15
       have H1 : (letterlockref3_size.l0 kj9 a0 a1 1 0) = some r := by rw [if_neg (show ¬ (false = true) by decide)] at H; exact H
       clear H
       have H := H1
       clear H1
       have H' := Aside0.mk H
       clear H
       go_wp2
       go_loopg [8, 9] kj9 (fun kq v8 v9 w' => ∃ (x8_3 : Int) (x9_3 : Int), v8 = .int .i64 x8_3 ∧ v9 = .int .i64 x9_3 ∧ Aside0 (letterlockref3_size.l0 kq a0 a1 x8_3 x9_3 = some r) ∧ Aside0 (kq ≤ kj9) ∧ Aside0 (Below w.heap.size w w'))
       case atStart => exact ⟨(1), (0), (by first | rfl | (simp; done) | (simp [*]; done)), (by first | rfl | (simp; done) | (simp [*]; done)), H', ⟨Nat.le_refl _⟩, ⟨by repeat (first | (with_reducible first | exact HB.out | apply below_alloc | apply pw_below_drewN | apply below_drew1) | exact HB.out)⟩⟩
       case round =>
        clear H'
        try clear c1
        try clear p1
        try clear q1
        try clear hx1
        try clear qi1
        try clear c2
        try clear p2
        try clear c4
        try clear c4b0
        try clear c4b1
        try clear c5
        try clear c5b0
        try clear c5b1
        try clear c6
        try clear c6b0
        try clear c6b1
        try clear p6
        try clear c7
        try clear p7
        try clear q7
        try clear hx7
        try clear qi7
        try clear c9
        try clear c11
        try clear c11b0
        try clear c11b1
        try clear p12
        try clear q12
        try clear hx12
        try clear qi12
        try clear c13
        try clear c13b0
        try clear c13b1
        try clear p14
        try clear q14
        try clear hx14
        try clear qi14
        try clear c15
        try clear c16
        try clear c16b0
        try clear c16b1
        try clear c18
        try clear c18b0
        try clear c18b1
        try clear p19
        try clear q19
        try clear hx19
        try clear qi19
        try clear c20
        try clear c20b0
        try clear c20b1
        try clear c21
        try clear c21b0
        try clear c23
        try clear c23b0
        try clear c23b1
        try clear c26
        try clear c26b0
        try clear c26b1
        try clear p1
        try clear p12
        try clear p14
        try clear p19
        try clear p2
        try clear p7
        try clear q1
        try clear q12
        try clear q14
        try clear q19
        try clear q7
        obtain ⟨x8_3, x9_3, rfl, rfl, HA, HK3, HB⟩ := hrel
        cases gk with
        | zero => exact absurd HA.out (by simp [letterlockref3_size.l0])
        | succ k3 =>
         have H := HA.out
         clear HA
         simp only [letterlockref3_size.l0] at H
         by_cases c27 : 0 < (a0.size : Int)
         ·rw [if_pos c27] at H
          have c27b0 : decide (0 < (a0.size : Int)) = true := decide_eq_true c27
          have c27b1 : decide (0 < a0.size) = true := decide_eq_true (by omega)
          clear c27
          replace H := Option.bind_eq_some_iff.mp H
          obtain ⟨t163, A290, H⟩ := H
          replace H : (if x9_3 < t163 then (if (bt a0 0) = 98 then (if x9_3 = 0 then (if x8_3 ≥ (a0.size : Int) then (letterlockref3_size.j3 k3 a0 a1 x8_3 x9_3 true) else (if 0 ≤ x8_3 then (if x8_3 < (a0.size : Int) then (letterlockref3_size.j3 k3 a0 a1 x8_3 x9_3 ((bt a0 x8_3) != 117)) else (none)) else (none))) else (letterlockref3_size.j3 k3 a0 a1 x8_3 x9_3 false)) else (letterlockref3_size.j3 k3 a0 a1 x8_3 x9_3 false)) else (some x8_3)) = some r := H
          have A29 := Aside0.mk A290
          clear A290
          by_cases c30 : x9_3 < t163
          ·rw [if_pos c30] at H
           have c30b0 : decide (x9_3 < t163) = true := decide_eq_true c30
           clear c30
           have HC31 := Aside0.mk H
           clear H
           have p28 : 0 ≤ (0 : Int) := (by omega)
           have q28 : 0 < a0.size := (by have : (0 : Int) < (a0.size : Int) := of_decide_eq_true (by first | (with_reducible assumption) | assumption); omega)
           have hx28 : ∀ h : 0 < a0.size, ((a0[0]'h).toNat : Int) = bt a0 0 := bt_at a0 0
           clear p28
           have qi28 : (0 < (a0.size : Int)) = True := eq_true (of_decide_eq_true (by first | (with_reducible assumption) | assumption))
           replace q28 := eq_true q28
           go_upto_region 14 with (first | ((with_reducible refine gate_callee (f := 73) rfl ?_); refine goesL_ (some 58) rfl rfl Tryz.func73 (by kernel_rfl) rfl #[.int .u8 (bt a0 0)] rfl (by (try simp only [List.map_toArray, List.map_cons, List.map_nil]); first | done | rfl | (simp only [List.length_drop, List.length_take]; rfl)) ?_; (with_reducible refine (letterlockref3_many.calls k3 (bt a0 0) t163 _ A29.out).mono ?_); rintro e w' ⟨rfl, ⟨nd, rfl⟩⟩; refine ⟨_, rfl, ?_⟩))
           (try simp only [Act.put, List.setIfInBounds_toArray, List.set_cons_zero, List.set_cons_succ])
           go_cut [80] (fun v80 wc => ∃ (kq : Nat) (x80_30 : Bool), v80 = .bool x80_30 ∧ Aside0 (letterlockref3_size.j3 kq a0 a1 x8_3 x9_3 x80_30 = some r) ∧ Aside0 (kq ≤ k3) ∧ Aside0 (Below w.heap.size w wc))
           case first =>
            have H := HC31.out
            clear HC31
            by_cases c33 : (bt a0 0) = 98
            ·rw [if_pos c33] at H
             have c33b0 : ((bt a0 0) == 98) = true := beq_iff_eq.mpr c33
             have c33b1 : ((bt a0 0) != 98) = false := bne_eq_false_iff_eq.mpr c33
             clear c33
             (first | rw [c33b0] | (simp only [i64_w, i32_w]; rw [c33b0]) | skip)
             by_cases c34 : x9_3 = 0
             ·rw [if_pos c34] at H
              have c34b0 : (x9_3 == 0) = true := beq_iff_eq.mpr c34
              have c34b1 : (x9_3 != 0) = false := bne_eq_false_iff_eq.mpr c34
              clear c34
              by_cases c35 : x8_3 ≥ (a0.size : Int)
              ·rw [if_pos c35] at H
               have c35b0 : decide ((a0.size : Int) ≤ x8_3) = true := decide_eq_true c35
               clear c35
               have H' := Aside0.mk H
               clear H
               have p32 : 0 ≤ (0 : Int) := (by omega)
               have q32 : 0 < a0.size := (by have : (0 : Int) < (a0.size : Int) := of_decide_eq_true (by first | (with_reducible assumption) | assumption); omega)
               have hx32 : ∀ h : 0 < a0.size, ((a0[0]'h).toNat : Int) = bt a0 0 := bt_at a0 0
               clear p32
               have qi32 : (0 < (a0.size : Int)) = True := eq_true (of_decide_eq_true (by first | (with_reducible assumption) | assumption))
               replace q32 := eq_true q32
               go_wp2
               go_meet
               case rel => exact ⟨_, (true), (by first | rfl | (simp; done) | (simp [*]; done)), H', ⟨by have := HJ2.out; have := HJ9.out; have := HK3.out; first | omega | exact Nat.le_refl _⟩, ⟨by repeat (first | (with_reducible first | exact HB.out | apply below_alloc | apply pw_below_drewN | apply below_drew1) | exact HB.out)⟩⟩
              ·rw [if_neg c35] at H
               have c35b0 : decide ((a0.size : Int) ≤ x8_3) = false := decide_eq_false c35
               clear c35
               by_cases c36 : 0 ≤ x8_3
               ·rw [if_pos c36] at H
                have c36b0 : decide (0 ≤ x8_3) = true := decide_eq_true c36
                clear c36
                by_cases c37 : x8_3 < (a0.size : Int)
                ·rw [if_pos c37] at H
                 have c37b0 : decide (x8_3 < (a0.size : Int)) = true := decide_eq_true c37
                 clear c37
                 have H' := Aside0.mk H
                 clear H
                 have p32 : 0 ≤ (0 : Int) := (by omega)
                 have q32 : 0 < a0.size := (by have : (0 : Int) < (a0.size : Int) := of_decide_eq_true (by first | (with_reducible assumption) | assumption); omega)
                 have hx32 : ∀ h : 0 < a0.size, ((a0[0]'h).toNat : Int) = bt a0 0 := bt_at a0 0
                 clear p32
                 have qi32 : (0 < (a0.size : Int)) = True := eq_true (of_decide_eq_true (by first | (with_reducible assumption) | assumption))
                 replace q32 := eq_true q32
                 have p38 : 0 ≤ (x8_3 : Int) := of_decide_eq_true (by first | (with_reducible assumption) | assumption)
                 have q38 : x8_3 < (a0.size : Int) := of_decide_eq_true (by first | (with_reducible assumption) | assumption)
                 have hx38 := bt_at a0 x8_3
                 replace p38 := eq_true p38
                 replace q38 := eq_true q38
                 go_wp2
                 go_meet
                 case rel => exact ⟨_, (((bt a0 x8_3) != 117)), (by first | rfl | (simp; done) | (simp [*]; done)), H', ⟨by have := HJ2.out; have := HJ9.out; have := HK3.out; first | omega | exact Nat.le_refl _⟩, ⟨by repeat (first | (with_reducible first | exact HB.out | apply below_alloc | apply pw_below_drewN | apply below_drew1) | exact HB.out)⟩⟩
                ·rw [if_neg c37] at H
                 exact absurd H (by simp)
               ·rw [if_neg c36] at H
                exact absurd H (by simp)
             ·rw [if_neg c34] at H
              have c34b0 : (x9_3 == 0) = false := beq_eq_false_iff_ne.mpr c34
              have c34b1 : (x9_3 != 0) = true := bne_iff_ne.mpr c34
              have H' := Aside0.mk H
              clear H
              have p32 : 0 ≤ (0 : Int) := (by omega)
              have q32 : 0 < a0.size := (by have : (0 : Int) < (a0.size : Int) := of_decide_eq_true (by first | (with_reducible assumption) | assumption); omega)
              have hx32 : ∀ h : 0 < a0.size, ((a0[0]'h).toNat : Int) = bt a0 0 := bt_at a0 0
              clear p32
              have qi32 : (0 < (a0.size : Int)) = True := eq_true (of_decide_eq_true (by first | (with_reducible assumption) | assumption))
              replace q32 := eq_true q32
              go_wp2
              go_meet
              case rel => exact ⟨_, (false), (by first | rfl | (simp; done) | (simp [*]; done)), H', ⟨by have := HJ2.out; have := HJ9.out; have := HK3.out; first | omega | exact Nat.le_refl _⟩, ⟨by repeat (first | (with_reducible first | exact HB.out | apply below_alloc | apply pw_below_drewN | apply below_drew1) | exact HB.out)⟩⟩
            ·rw [if_neg c33] at H
             have c33b0 : ((bt a0 0) == 98) = false := beq_eq_false_iff_ne.mpr c33
             have c33b1 : ((bt a0 0) != 98) = true := bne_iff_ne.mpr c33
             (first | rw [c33b0] | (simp only [i64_w, i32_w]; rw [c33b0]) | skip)
             have H' := Aside0.mk H
             clear H
             have p32 : 0 ≤ (0 : Int) := (by omega)
             have q32 : 0 < a0.size := (by have : (0 : Int) < (a0.size : Int) := of_decide_eq_true (by first | (with_reducible assumption) | assumption); omega)
             have hx32 : ∀ h : 0 < a0.size, ((a0[0]'h).toNat : Int) = bt a0 0 := bt_at a0 0
             clear p32
             have qi32 : (0 < (a0.size : Int)) = True := eq_true (of_decide_eq_true (by first | (with_reducible assumption) | assumption))
             replace q32 := eq_true q32
             go_wp2
             go_meet
             case rel => exact ⟨_, (false), (by first | rfl | (simp; done) | (simp [*]; done)), H', ⟨by have := HJ2.out; have := HJ9.out; have := HK3.out; first | omega | exact Nat.le_refl _⟩, ⟨by repeat (first | (with_reducible first | exact HB.out | apply below_alloc | apply pw_below_drewN | apply below_drew1) | exact HB.out)⟩⟩
           case rest =>
            clear HC31
            try clear c1
            try clear p1
            try clear q1
            try clear hx1
            try clear qi1
            try clear c2
            try clear p2
            try clear q2
            try clear hx2
            try clear qi2
            try clear c3
            try clear p3
            try clear q3
            try clear hx3
            try clear qi3
            try clear c4
            try clear c4b0
            try clear c4b1
            try clear c5
            try clear c5b0
            try clear c5b1
            try clear c6
            try clear c6b0
            try clear c6b1
            try clear p6
            try clear c7
            try clear p7
            try clear q7
            try clear hx7
            try clear qi7
            try clear c9
            try clear c11
            try clear c11b0
            try clear c11b1
            try clear p12
            try clear q12
            try clear hx12
            try clear qi12
            try clear c13
            try clear c13b0
            try clear c13b1
            try clear p14
            try clear q14
            try clear hx14
            try clear qi14
            try clear c15
            try clear c16
            try clear c16b0
            try clear c16b1
            try clear c18
            try clear c18b0
            try clear c18b1
            try clear p19
            try clear q19
            try clear hx19
            try clear qi19
            try clear c20
            try clear c20b0
            try clear c20b1
            try clear c21
            try clear c21b0
            try clear c23
            try clear c23b0
            try clear c23b1
            try clear c26
            try clear c26b0
            try clear c26b1
            try clear c27
            try clear c27b0
            try clear c27b1
            try clear p28
            try clear q28
            try clear hx28
            try clear qi28
            try clear c30
            try clear c30b0
            try clear p32
            try clear q32
            try clear hx32
            try clear qi32
            try clear c33
            try clear c33b0
            try clear c33b1
            try clear c34
            try clear c34b0
            try clear c34b1
            try clear c35
            try clear c35b0
            try clear c36
            try clear c36b0
            try clear c37
            try clear c37b0
            try clear p38
            try clear q38
            try clear hx38
            try clear p1
            try clear p12
            try clear p14
            try clear p19
            try clear p2
            try clear p28
            try clear p32
            try clear p38
            try clear p6
            try clear p7
            try clear q1
            try clear q12
            try clear q14
            try clear q19
            try clear q28
            try clear q32
            try clear q38
            try clear q7
            obtain ⟨kq, x80_30, rfl, HA, HJ30, HB⟩ := hcut
            cases kq with
            | zero => exact absurd HA.out (by simp [letterlockref3_size.j3])
            | succ kj30 =>
             have H := HA.out
             clear HA
             simp only [letterlockref3_size.j3] at H
             by_cases c39 : x80_30 = true
             ·subst c39
              have H1 : (some 0) = some r := by rw [if_pos rfl] at H; exact H
              clear H
              have H := H1
              clear H1
              obtain rfl := Option.some.inj H
              go_wp2
              go_ret
              exact ⟨by first | rfl | (simp [errW_none, errW_some] <;> rfl) | (simp [*, errW_none, errW_some] <;> rfl), by repeat (first | (with_reducible first | exact HB.out | apply below_alloc | apply pw_below_drewN | apply below_drew1) | exact HB.out)⟩
             ·replace c39 := Bool.eq_false_iff.mpr c39
              subst c39
              have H1 : (if 0 ≤ x8_3 then (if x8_3 ≤ (a0.size : Int) then ((letterlockref3_size.f kj30 (a0.extract (x8_3 : Int).toNat a0.size) (wrap64 (a1 - 1))).bind fun t164 => (if t164 = 0 then (some 0) else (letterlockref3_size.l0 kj30 a0 a1 (wrap64 (x8_3 + t164)) (wrap64 (x9_3 + 1))))) else (none)) else (none)) = some r := by rw [if_neg (show ¬ (false = true) by decide)] at H; exact H
              clear H
              have H := H1
              clear H1
              by_cases c40 : 0 ≤ x8_3
              ·rw [if_pos c40] at H
               have c40b0 := eq_true c40
               have c40b1 : decide (0 ≤ x8_3) = true := decide_eq_true c40
               clear c40
               by_cases c41 : x8_3 ≤ (a0.size : Int)
               ·rw [if_pos c41] at H
                have c41b0 := eq_true c41
                have c41b1 : decide (x8_3 ≤ (a0.size : Int)) = true := decide_eq_true c41
                clear c41
                replace H := Option.bind_eq_some_iff.mp H
                obtain ⟨t164, A420, H⟩ := H
                replace H : (if t164 = 0 then (some 0) else (letterlockref3_size.l0 kj30 a0 a1 (wrap64 (x8_3 + t164)) (wrap64 (x9_3 + 1)))) = some r := H
                have A42 := Aside0.mk A420
                clear A420
                by_cases c43 : t164 = 0
                ·rw [if_pos c43] at H
                 have c43b0 : (t164 == 0) = true := beq_iff_eq.mpr c43
                 have c43b1 : (t164 != 0) = false := bne_eq_false_iff_eq.mpr c43
                 clear c43
                 obtain rfl := Option.some.inj H
                 go_wp2_with (first | ((with_reducible refine gate_callee (f := 51) rfl ?_); refine goesL_ (some 86) rfl rfl Tryz.func51 (by kernel_rfl) rfl #[.string (a0.extract (x8_3 : Int).toNat a0.size), .int .i64 (wrap64 (a1 - 1))] rfl (by (try simp only [List.map_toArray, List.map_cons, List.map_nil]); first | done | rfl | (simp only [List.length_drop, List.length_take]; rfl)) ?_; (with_reducible refine (ih kj30 (by have := HJ2.out; have := HJ9.out; have := HK3.out; have := HJ30.out; omega) (a0.extract (x8_3 : Int).toNat a0.size) (wrap64 (a1 - 1)) t164 _ A42.out).mono ?_); rintro e w44 ⟨rfl, hb⟩; refine ⟨_, rfl, ?_⟩; have n0_ := Aside0.mk (below_step (by repeat (first | (with_reducible first | exact HB.out | apply below_alloc | apply pw_below_drewN | apply below_drew1) | exact HB.out)) hb); clear HB; have HB := n0_; clear n0_; (try clear hb); (try clear hb2); (try clear hk); (try clear hi)))
                 go_ret
                 exact ⟨by first | rfl | (simp [errW_none, errW_some] <;> rfl) | (simp [*, errW_none, errW_some] <;> rfl), by repeat (first | (with_reducible first | exact HB.out | apply below_alloc | apply pw_below_drewN | apply below_drew1) | exact HB.out)⟩
                ·rw [if_neg c43] at H
                 have c43b0 : (t164 == 0) = false := beq_eq_false_iff_ne.mpr c43
                 have c43b1 : (t164 != 0) = true := bne_iff_ne.mpr c43
                 have H' := Aside0.mk H
                 clear H
                 go_wp2_with (first | ((with_reducible refine gate_callee (f := 51) rfl ?_); refine goesL_ (some 86) rfl rfl Tryz.func51 (by kernel_rfl) rfl #[.string (a0.extract (x8_3 : Int).toNat a0.size), .int .i64 (wrap64 (a1 - 1))] rfl (by (try simp only [List.map_toArray, List.map_cons, List.map_nil]); first | done | rfl | (simp only [List.length_drop, List.length_take]; rfl)) ?_; (with_reducible refine (ih kj30 (by have := HJ2.out; have := HJ9.out; have := HK3.out; have := HJ30.out; omega) (a0.extract (x8_3 : Int).toNat a0.size) (wrap64 (a1 - 1)) t164 _ A42.out).mono ?_); rintro e w45 ⟨rfl, hb⟩; refine ⟨_, rfl, ?_⟩; have n0_ := Aside0.mk (below_step (by repeat (first | (with_reducible first | exact HB.out | apply below_alloc | apply pw_below_drewN | apply below_drew1) | exact HB.out)) hb); clear HB; have HB := n0_; clear n0_; (try clear hb); (try clear hb2); (try clear hk); (try clear hi)))
                 go_roundg kj30
                 case measure => have := HJ2.out; have := HJ9.out; have := HK3.out; have := HJ30.out; omega
                 case rel => exact ⟨(wrap64 (x8_3 + t164)), (wrap64 (x9_3 + 1)), (by first | rfl | (simp; done) | (simp [*]; done)), (by first | rfl | (simp; done) | (simp [*]; done)), H', ⟨by have := HJ2.out; have := HJ9.out; have := HK3.out; have := HJ30.out; omega⟩, ⟨by repeat (first | (with_reducible first | exact HB.out | apply below_alloc | apply pw_below_drewN | apply below_drew1) | exact HB.out)⟩⟩
               ·rw [if_neg c41] at H
                exact absurd H (by simp)
              ·rw [if_neg c40] at H
               exact absurd H (by simp)
          ·rw [if_neg c30] at H
           have c30b0 : decide (x9_3 < t163) = false := decide_eq_false c30
           clear c30
           obtain rfl := Option.some.inj H
           have p28 : 0 ≤ (0 : Int) := (by omega)
           have q28 : 0 < a0.size := (by have : (0 : Int) < (a0.size : Int) := of_decide_eq_true (by first | (with_reducible assumption) | assumption); omega)
           have hx28 : ∀ h : 0 < a0.size, ((a0[0]'h).toNat : Int) = bt a0 0 := bt_at a0 0
           clear p28
           have qi28 : (0 < (a0.size : Int)) = True := eq_true (of_decide_eq_true (by first | (with_reducible assumption) | assumption))
           replace q28 := eq_true q28
           go_wp2_with (first | ((with_reducible refine gate_callee (f := 73) rfl ?_); refine goesL_ (some 58) rfl rfl Tryz.func73 (by kernel_rfl) rfl #[.int .u8 (bt a0 0)] rfl (by (try simp only [List.map_toArray, List.map_cons, List.map_nil]); first | done | rfl | (simp only [List.length_drop, List.length_take]; rfl)) ?_; (with_reducible refine (letterlockref3_many.calls k3 (bt a0 0) t163 _ A29.out).mono ?_); rintro e w' ⟨rfl, ⟨nd, rfl⟩⟩; refine ⟨_, rfl, ?_⟩))
           go_ret
           exact ⟨by first | rfl | (simp [errW_none, errW_some] <;> rfl) | (simp [*, errW_none, errW_some] <;> rfl), by repeat (first | (with_reducible first | exact HB.out | apply below_alloc | apply pw_below_drewN | apply below_drew1) | exact HB.out)⟩
         ·rw [if_neg c27] at H
          exact absurd H (by simp)
def letterlockref3_Right.f (k : Nat) (a0 : ByteArray) : Option (Bool) := if a0.toList = ([] : List UInt8) then (some false) else (if (a0.size : Int) ≤ 4000 then ((letterlockref3_size.f k a0 40).bind fun t165 => (some (t165 == (a0.size : Int)))) else (some false))
set_option maxHeartbeats 8000000 in
set_option maxRecDepth 100000 in
theorem letterlockref3_Right.calls (k : Nat) (a0 : ByteArray) (r : Bool) (w : World) (h : letterlockref3_Right.f k a0 = some r) :
  Calls Tryz.prog 18 #[.string a0] w fun e w' => e = .returned (.bool r) ∧ Below w.heap.size w w' := by
 have HB := Aside0.mk (Below.refl w.heap.size w)
 have H : (if a0.toList = ([] : List UInt8) then (some false) else (if (a0.size : Int) ≤ 4000 then ((letterlockref3_size.f k a0 40).bind fun t165 => (some (t165 == (a0.size : Int)))) else (some false))) = some r := h
 clear h
 by_cases c2 : a0.toList = ([] : List UInt8)
 ·rw [if_pos c2] at H
  have c2b0 : (a0.toList == ([] : List UInt8)) = true := beq_iff_eq.mpr c2
  have c2b1 : (a0.toList != ([] : List UInt8)) = false := bne_eq_false_iff_eq.mpr c2
  clear c2
  obtain rfl := Option.some.inj H
  go_enter Tryz.func18, Tryz.ntmps18
  go_wp2
  go_ret
  exact ⟨by first | rfl | (simp [errW_none, errW_some] <;> rfl) | (simp [*, errW_none, errW_some] <;> rfl), by repeat (first | (with_reducible first | exact HB.out | apply below_alloc | apply pw_below_drewN | apply below_drew1) | exact HB.out)⟩
 ·rw [if_neg c2] at H
  have c2b0 : (a0.toList == ([] : List UInt8)) = false := beq_eq_false_iff_ne.mpr c2
  have c2b1 : (a0.toList != ([] : List UInt8)) = true := bne_iff_ne.mpr c2
  by_cases c3 : (a0.size : Int) ≤ 4000
  ·rw [if_pos c3] at H
   have c3b0 : decide ((a0.size : Int) ≤ 4000) = true := decide_eq_true c3
   have c3b1 : decide (a0.size ≤ 4000) = true := decide_eq_true (by omega)
   clear c3
   replace H := Option.bind_eq_some_iff.mp H
   obtain ⟨t165, A40, H⟩ := H
   replace H : (some (t165 == (a0.size : Int))) = some r := H
   have A4 := Aside0.mk A40
   clear A40
   obtain rfl := Option.some.inj H
   go_enter Tryz.func18, Tryz.ntmps18
   go_wp2_with (first | (go_at_call 51; (with_reducible refine (letterlockref3_size.calls k a0 40 t165 _ A4.out).mono ?_); rintro e w5 ⟨rfl, hb⟩; have n0_ := Aside0.mk (below_step (by repeat (first | (with_reducible first | exact HB.out | apply below_alloc | apply pw_below_drewN | apply below_drew1) | exact HB.out)) hb); clear HB; have HB := n0_; clear n0_; (try clear hb); (try clear hb2); (try clear hk); (try clear hi)))
   go_ret
   exact ⟨by first | rfl | (simp [errW_none, errW_some] <;> rfl) | (simp [*, errW_none, errW_some] <;> rfl), by repeat (first | (with_reducible first | exact HB.out | apply below_alloc | apply pw_below_drewN | apply below_drew1) | exact HB.out)⟩
  ·rw [if_neg c3] at H
   have c3b0 : decide ((a0.size : Int) ≤ 4000) = false := decide_eq_false c3
   have c3b1 : decide (a0.size ≤ 4000) = false := decide_eq_false (by omega)
   clear c3
   obtain rfl := Option.some.inj H
   go_enter Tryz.func18, Tryz.ntmps18
   go_wp2
   go_ret
   exact ⟨by first | rfl | (simp [errW_none, errW_some] <;> rfl) | (simp [*, errW_none, errW_some] <;> rfl), by repeat (first | (with_reducible first | exact HB.out | apply below_alloc | apply pw_below_drewN | apply below_drew1) | exact HB.out)⟩
end Go.Proofs.YtlhoahbpklhpmaaGreatDoor.PA
end
section

namespace Go.Proofs.YtlhoahbpklhpmaaGreatDoor
open Go.RowKit Go.Proofs.YtlhoahbpklhpmaaGreatDoorW.PrintWords Go.Proofs.YtlhoahbpklhpmaaGreatDoorW.PrintLast
set_option linter.unusedVariables false
set_option linter.unusedSimpArgs false
section
variable {P : Program} {ops : Array Oper} {Q : Exit → Act → World → Prop}
theorem dies_ {oi : Oper} {N : Option Tmp} {a : Act} {w : World} {K : Act → World → Prop} {f : FuncId} {fn : Func} {ar : Array Operand} {ts : Array TypeId} (hf : P.funcs[f]? = some fn) (hname : (fn.name == "runtime.NumGoroutine") = false) (hb : fn.body.isSome = true) (args : Array Value)
  (hw : Region.wanted oi (yielded ops a.tmps) = true) (hN : oi.dst = N) (hop : oi.op = .call { callee := .value (.func f), args := ar, argTypes := ts }) (hargs : ar.map a.eval = args)
  (h : Calls P f args w fun e w' => ∃ ch, e = .panicked ch ∧ Q (.panic ch) a w') : if Region.wanted oi (yielded ops a.tmps) = true then Oper.wp P oi a w K Q else K (a.put N undef) w := by
 rw [if_pos hw]
 subst hN
 have he := enters_ hf hname hb args w
 unfold Oper.wp
 have hrun : (execOp a.eval oi).run P w = .ok (.enter f args) w := by
  unfold execOp
  simp [hop, resolve, Deferred.ofValue, invoke, Act.eval, hargs, he]
 rw [hrun, Oper.upon_enter]
 refine h.mono fun e w'' hh => ?_
 obtain ⟨ch, rfl, hk⟩ := hh
 exact hk
end
def failed (e : Int) : List PanicEntry := [{ v := .iface 67 (.agg #[.int .i64 e]), recovered := false }]
theorem must_ok (s : ByteArray) (w : World) : Calls Tryz.prog 36 #[.string s, .int .i64 0] w fun e w' => e = .returned (.string s) ∧ w' = w := by
 go_enter Tryz.func36, Tryz.ntmps36
 go_wp2
 go_ret
 exact ⟨rfl, rfl⟩
theorem must_err (s : ByteArray) (c : Int) (hc : c ≠ 0) (w : World) : Calls Tryz.prog 36 #[.string s, .int .i64 c] w fun e w' => e = .panicked (failed c) ∧ w' = w := by
 have h1 : (c != 0) = true := by rw [bne_iff_ne]; exact hc
 go_enter Tryz.func36, Tryz.ntmps36
 go_wp2
 exact ⟨rfl, rfl, rfl⟩
theorem mustI_ok (s : Int) (w : World) : Calls Tryz.prog 42 #[.int .i64 s, .int .i64 0] w fun e w' => e = .returned (.int .i64 s) ∧ w' = w := by
 go_enter Tryz.func42, Tryz.ntmps42
 go_wp2
 go_ret
 exact ⟨rfl, rfl⟩
theorem mustI_err (s c : Int) (hc : c ≠ 0) (w : World) : Calls Tryz.prog 42 #[.int .i64 s, .int .i64 c] w fun e w' => e = .panicked (failed c) ∧ w' = w := by
 have h1 : (c != 0) = true := by rw [bne_iff_ne]; exact hc
 go_enter Tryz.func42, Tryz.ntmps42
 go_wp2
 exact ⟨rfl, rfl, rfl⟩
theorem mustL_ok (A : Option Addr) (n c : Nat) (w : World) : Calls Tryz.prog 45 #[.slice A n c, .int .i64 0] w fun e w' => e = .returned (.slice A n c) ∧ w' = w := by
 go_enter Tryz.func45, Tryz.ntmps45
 go_wp2
 go_ret
 exact ⟨rfl, rfl⟩
theorem catch_idle (p : Addr) (w : World) :
  CallsD Tryz.prog 69 #[.pointer (some p)] .returning w fun e u' w' => e = .returned (.tuple #[]) ∧ u' = .returning ∧ w' = w := by
 refine callsD_of_wpS Tryz.func69 rfl fun c₀ cs hu => ?_
 apply wpS_seq
 apply wpS_region
 simp [wpOpsS, go_sem, recoverD, hu, Tryz.ntmps69, Exit.thenS]
 refine wpS_of_wp ?_
 go_wp2
 cases c₀
 simp_all [bodyPostS, results, Tryz.results69]
set_option maxRecDepth 100000 in
set_option maxHeartbeats 2000000 in
theorem catch_failed (B : Nat) (v : Value) (t : TypeId) (c : Int) (older : List PanicEntry) (w : World) (hB : w.heap[B]? = some (.cells #[v] t (0, 0))) :
  CallsD Tryz.prog 69 #[.pointer (some ⟨B, 0, none⟩)] (.panicking ({ v := .iface 67 (.agg #[.int .i64 c]), recovered := false } :: older)) w fun e u' w' =>
   e = .returned (.tuple #[]) ∧ u' = .panicking ({ v := .iface 67 (.agg #[.int .i64 c]), recovered := true } :: older) ∧ (w'.heap[B]? = some (.cells #[.int .i64 c] t (0, 0)) ∧ Moved (· = B) w w') := by
 refine callsD_of_wpS Tryz.func69 rfl fun c₀ cs hu => ?_
 apply wpS_seq
 apply wpS_region
 simp [wpOpsS, go_sem, recoverD, hu, Tryz.ntmps69, Exit.thenS]
 have hlt := lt_of_block hB
 have hc : w.cell? ⟨B, 0, none⟩ = some v := cell_of_blk hB rfl
 have hz : w.frozen? ⟨B, 0, none⟩ = false := free_of_blk hB
 have ha : ∀ W : World, Sem.run Tryz.prog (Instr.typeAssert (.iface 67 (.agg #[.int .i64 c])) 20 67 true) W = .ok (.tuple #[.agg #[.int .i64 c], .bool true]) W := fun W => by kernel_rfl
 have hne : ¬ B = w.heap.size := by omega
 refine wpS_of_wp ?_
 go_wp2
 have g1 : ((w.setCell ⟨B, 0, none⟩ (.int .i64 c)).alloc (.cells #[.int .i64 c] 67)).heap[B]? = some (.cells #[.int .i64 c] t (0, 0)) := by
  rw [Below.heap_alloc _ _ _ (by simpa [World.setCell] using hlt), blk_setCell hB]; rfl
 have g2 : Moved (· = B) w ((w.setCell ⟨B, 0, none⟩ (.int .i64 c)).alloc (.cells #[.int .i64 c] 67)) :=
  (Moved.setCell (S := (· = B)) w (a := ⟨B, 0, none⟩) rfl _).trans (Moved.alloc _ _)
 generalize ((w.setCell ⟨B, 0, none⟩ (.int .i64 c)).alloc (.cells #[.int .i64 c] 67)) = W at g1 g2 ⊢
 cases c₀
 simp_all [bodyPostS, results, Tryz.results69]
set_option maxRecDepth 100000 in
set_option maxHeartbeats 2000000 in
theorem caught_build (cap : Array Value) (w : World) (E : Int) (T : World → Prop) (hT : ∀ a b, T a → Moved (· = w.heap.size) a b → T b)
  (h : Calls Tryz.prog 35 cap (w.alloc (.cells #[.int .i64 0] 25)) fun e w' => (E = 0 ∧ e = .returned (.tuple #[]) ∨ E ≠ 0 ∧ e = .panicked (failed E)) ∧ w'.heap[w.heap.size]? = some (.cells #[.int .i64 0] 25 (0, 0)) ∧ T w') :
  Calls Tryz.prog 34 #[.func (Fn.func 35) #[] cap] w fun e w' => e = .returned (.int .i64 E) ∧ T w' := by
 have hmf : ∀ (fn : Fn) (first cap : Array Value) (w : World), (Instr.makeFunc fn first cap).run Tryz.prog w = .ok (.func fn first cap) w := fun _ _ _ _ => rfl
 go_enter_defers Tryz.func34, Tryz.ntmps34
 go_wp2_with fail
 refine h.mono ?_
 rintro e w1 ⟨⟨rfl, rfl⟩ | ⟨hne, rfl⟩, hB, hTw⟩
 ·have hc : w1.cell? ⟨w.heap.size, 0, none⟩ = some (.int .i64 0) := cell_of_blk hB rfl
  have hz : w1.frozen? ⟨w.heap.size, 0, none⟩ = false := free_of_blk hB
  have g1 : (w1.setCell ⟨w.heap.size, 0, none⟩ (.int .i64 0)).cell? ⟨w.heap.size, 0, none⟩ = some (.int .i64 0) := cell_of_blk (blk_setCell hB) rfl
  have g2 := hT _ _ hTw (Moved.setCell (S := (· = w.heap.size)) w1 (a := ⟨w.heap.size, 0, none⟩) rfl (.int .i64 0))
  go_wp2
  refine leaves_cons (f := 69) (args := #[.pointer (some ⟨w.heap.size, 0, none⟩)]) (by simp) (by simp [go_sem]) ?_
  refine (catch_idle ⟨w.heap.size, 0, none⟩ _).mono ?_
  rintro e u' w'' ⟨rfl, rfl, rfl⟩
  generalize w1.setCell ⟨w.heap.size, 0, none⟩ (.int .i64 0) = W at g1 g2 ⊢
  simp [Leaves, settle, results, Tryz.results34, go_sem, g1]
  exact g2
 ·go_wp2
  refine leaves_cons (f := 69) (args := #[.pointer (some ⟨w.heap.size, 0, none⟩)]) (by simp) (by simp [go_sem]) ?_
  refine (catch_failed w.heap.size _ _ E [] w1 hB).mono ?_
  rintro e u' w'' ⟨rfl, rfl, hB2, hM⟩
  have g1 : w''.cell? ⟨w.heap.size, 0, none⟩ = some (.int .i64 E) := cell_of_blk hB2 rfl
  have g2 := hT _ _ hTw hM
  simp [Leaves, settle, results, Tryz.results34, go_sem, g1]
  exact g2
set_option maxRecDepth 100000 in
set_option maxHeartbeats 2000000 in
theorem caught_open (cap : Array Value) (w : World) (E : Int) (T : World → Prop) (hT : ∀ a b, T a → Moved (· = w.heap.size) a b → T b)
  (h : Calls Tryz.prog 41 cap (w.alloc (.cells #[.int .i64 0] 25)) fun e w' => (E = 0 ∧ e = .returned (.tuple #[]) ∨ E ≠ 0 ∧ e = .panicked (failed E)) ∧ w'.heap[w.heap.size]? = some (.cells #[.int .i64 0] 25 (0, 0)) ∧ T w') :
  Calls Tryz.prog 34 #[.func (Fn.func 41) #[] cap] w fun e w' => e = .returned (.int .i64 E) ∧ T w' := by
 have hmf : ∀ (fn : Fn) (first cap : Array Value) (w : World), (Instr.makeFunc fn first cap).run Tryz.prog w = .ok (.func fn first cap) w := fun _ _ _ _ => rfl
 go_enter_defers Tryz.func34, Tryz.ntmps34
 go_wp2_with fail
 refine h.mono ?_
 rintro e w1 ⟨⟨rfl, rfl⟩ | ⟨hne, rfl⟩, hB, hTw⟩
 ·have hc : w1.cell? ⟨w.heap.size, 0, none⟩ = some (.int .i64 0) := cell_of_blk hB rfl
  have hz : w1.frozen? ⟨w.heap.size, 0, none⟩ = false := free_of_blk hB
  have g1 : (w1.setCell ⟨w.heap.size, 0, none⟩ (.int .i64 0)).cell? ⟨w.heap.size, 0, none⟩ = some (.int .i64 0) := cell_of_blk (blk_setCell hB) rfl
  have g2 := hT _ _ hTw (Moved.setCell (S := (· = w.heap.size)) w1 (a := ⟨w.heap.size, 0, none⟩) rfl (.int .i64 0))
  go_wp2
  refine leaves_cons (f := 69) (args := #[.pointer (some ⟨w.heap.size, 0, none⟩)]) (by simp) (by simp [go_sem]) ?_
  refine (catch_idle ⟨w.heap.size, 0, none⟩ _).mono ?_
  rintro e u' w'' ⟨rfl, rfl, rfl⟩
  generalize w1.setCell ⟨w.heap.size, 0, none⟩ (.int .i64 0) = W at g1 g2 ⊢
  simp [Leaves, settle, results, Tryz.results34, go_sem, g1]
  exact g2
 ·go_wp2
  refine leaves_cons (f := 69) (args := #[.pointer (some ⟨w.heap.size, 0, none⟩)]) (by simp) (by simp [go_sem]) ?_
  refine (catch_failed w.heap.size _ _ E [] w1 hB).mono ?_
  rintro e u' w'' ⟨rfl, rfl, hB2, hM⟩
  have g1 : w''.cell? ⟨w.heap.size, 0, none⟩ = some (.int .i64 E) := cell_of_blk hB2 rfl
  have g2 := hT _ _ hTw hM
  simp [Leaves, settle, results, Tryz.results34, go_sem, g1]
  exact g2
end Go.Proofs.YtlhoahbpklhpmaaGreatDoor
end
section

namespace Go.Proofs.YtlhoahbpklhpmaaGreatDoor.PL
open Go.RowKit Go.Proofs.YtlhoahbpklhpmaaGreatDoorW.PrintWords Go.Proofs.YtlhoahbpklhpmaaGreatDoorW.PrintLast Go.Proofs.YtlhoahbpklhpmaaGreatDoorW.PrintMore
attribute [local go_sem] max2_int min2_int max_two min_two max_three min_three max_four min_four   -- for this text's walks alone
set_option linter.unusedVariables false
set_option linter.unusedSimpArgs false
def errW : Option Int → Value
 | none => .nilIface
 | some c => .iface 0 (.int .i64 c)
theorem errW_none : errW none = .nilIface := rfl
theorem errW_some (c : Int) : errW (some c) = .iface 0 (.int .i64 c) := rfl
structure S115 where
 f0 : Int
 f1 : Int
def z115 : S115 := ⟨(0 : Int), (0 : Int)⟩
def k115 : Kd S115 := Kd.iso (Kd.pair (Kd.int .i32) (Kd.int .i32)) (fun x : S115 => (x.f0, x.f1))
theorem k115_open {w : World} {x : S115} {cs : List Value} (h : k115.K w x cs) : cs = [.int .i32 x.f0, .int .i32 x.f1] := by
 obtain ⟨_, _, rfl, rfl, rfl⟩ := h
 exact rfl
theorem k115_mkM (w : World) (base : Nat) (ok : Nat → Prop) (x : S115)  : k115.M w base ok x [.int .i32 x.f0, .int .i32 x.f1] := ⟨[.int .i32 x.f0], [.int .i32 x.f1], rfl, rfl, rfl⟩
def rd_T115 (xs : List S115) (i : Int) : S115 := xs.getD i.toNat z115
theorem at_T115 {w : World} {A : Option Addr} {n : Nat} {xs : List S115} (h : Kd.C k115 w A n xs) (i : Int) (h0 : 0 ≤ i) (h1 : i < n) : ∃ ad , A = some ad ∧ w.cell? (ad.add (i.toNat * 2)) = some (.int .i32 (rd_T115 xs i).f0) ∧ w.cell? ⟨(ad.add (i.toNat * 2)).block, (ad.add (i.toNat * 2)).off + 1, none⟩ = some (.int .i32 (rd_T115 xs i).f1) := by
 obtain ⟨ad, c, e, _, hK, hc0⟩ := Kd.C_get h z115 i h0 h1
 have hc : ∀ j u, c[j]? = some u → w.cell? (ad.add (i.toNat * 2 + j)) = some u := hc0
 obtain rfl := k115_open hK
 exact ⟨ad, e, hc 0 _ rfl, by rw [← add_field _ _ 1 (by omega)]; exact hc 1 _ rfl⟩
end Go.Proofs.YtlhoahbpklhpmaaGreatDoor.PL
end
section

namespace Go.Proofs.YtlhoahbpklhpmaaGreatDoor.PL
open Go.RowKit Go.Proofs.YtlhoahbpklhpmaaGreatDoorW.PrintWords Go.Proofs.YtlhoahbpklhpmaaGreatDoorW.PrintLast Go.Proofs.YtlhoahbpklhpmaaGreatDoorW.PrintMore
attribute [local go_sem] max2_int min2_int max_two min_two max_three min_three max_four min_four   -- for this text's walks alone
set_option linter.unusedVariables false
set_option linter.unusedSimpArgs false
def name_within.l0 : Nat → Int → List (S115) → Int → Int → Option (Bool)
 | 0, _, _, _, _ => none
 | k + 1, x0, x7, x8, x9 => if x9 < x8 then (if 0 ≤ x9 then (if x9 < (x7.length : Int) then (if x0 ≥ ((rd_T115 x7 x9).f0) then (if x0 ≤ ((rd_T115 x7 x9).f1) then (some true) else (name_within.l0 k x0 x7 x8 (wrap64 (x9 + 1)))) else (name_within.l0 k x0 x7 x8 (wrap64 (x9 + 1)))) else (none)) else (none)) else (some false)
def name_within.f (k : Nat) (a0 : Int) (l1 : List (S115)) : Option (Bool) := name_within.l0 k a0 l1 (l1.length : Int) 0
set_option maxHeartbeats 8000000 in
set_option maxRecDepth 100000 in
theorem name_within.calls (k : Nat) (a0 : Int) (A1 : Option Addr) (c1 : Nat) (l1 : List (S115)) (r : Bool) (w : World) (hr1 : Kd.C k115 w A1 l1.length l1) (hc1 : l1.length ≤ c1) (h : name_within.f k a0 l1 = some r) :
  Calls Tryz.prog 92 #[.int .i32 a0, .slice A1 l1.length c1] w fun e w' => e = .returned (.bool r) ∧ Below w.heap.size w w' := by
 have hu115 := Tryz.underlying115
 have HR1 := Aside0.mk hr1
 have HC1 := Aside0.mk hc1
 clear hr1 hc1
 have HB := Aside0.mk (Below.refl w.heap.size w)
 have H : (name_within.l0 k a0 l1 (l1.length : Int) 0) = some r := h
 clear h
 have H' := Aside0.mk H
 clear H
 go_enter Tryz.func92, Tryz.ntmps92
 go_wp2
 go_loopg [9] k (fun kq v9 w' => ∃ (x9_1 : Int), v9 = .int .i64 x9_1 ∧ Aside0 (name_within.l0 kq a0 l1 (l1.length : Int) x9_1 = some r) ∧ Aside0 (kq ≤ k) ∧ Aside0 (Below w.heap.size w w'))
 case atStart => exact ⟨(0), (by first | rfl | (simp; done) | (simp [*]; done)), H', ⟨Nat.le_refl _⟩, ⟨by repeat (first | (with_reducible first | exact HB.out | apply below_alloc | apply pw_below_drewN | apply below_drew1) | exact HB.out)⟩⟩
 case round =>
  clear H'
  try clear c1
  try clear p2
  obtain ⟨x9_1, rfl, HA, HK1, HB⟩ := hrel
  cases gk with
  | zero => exact absurd HA.out (by simp [name_within.l0])
  | succ k1 =>
   have H := HA.out
   clear HA
   simp only [name_within.l0] at H
   by_cases c3 : x9_1 < (l1.length : Int)
   ·rw [if_pos c3] at H
    have c3b0 : decide (x9_1 < (l1.length : Int)) = true := decide_eq_true c3
    clear c3
    by_cases c4 : 0 ≤ x9_1
    ·rw [if_pos c4] at H
     have c4b0 : decide (0 ≤ x9_1) = true := decide_eq_true c4
     clear c4
     by_cases c5 : x9_1 < (l1.length : Int)
     ·rw [if_pos c5] at H
      have c5b0 : decide (x9_1 < (l1.length : Int)) = true := decide_eq_true c5
      clear c5
      by_cases c6 : a0 ≥ ((rd_T115 l1 x9_1).f0)
      ·rw [if_pos c6] at H
       have c6b0 : decide (((rd_T115 l1 x9_1).f0) ≤ a0) = true := decide_eq_true c6
       clear c6
       by_cases c7 : a0 ≤ ((rd_T115 l1 x9_1).f1)
       ·rw [if_pos c7] at H
        have c7b0 : decide (a0 ≤ ((rd_T115 l1 x9_1).f1)) = true := decide_eq_true c7
        clear c7
        obtain rfl := Option.some.inj H
        have p101 : 0 ≤ (x9_1 : Int) := of_decide_eq_true (by first | (with_reducible assumption) | assumption)
        have q101 : x9_1 < (l1.length : Int) := of_decide_eq_true (by first | (with_reducible assumption) | assumption)
        obtain ⟨ad101, e101, hx101_0, hx101_1⟩ := at_T115 HR1.out x9_1 p101 q101
        cases e101
        replace hx101_0 := (HB.out.cell (World.block_lt_of_cell? w _ hx101_0)).trans hx101_0
        replace hx101_1 := (HB.out.cell (World.block_lt_of_cell? w _ hx101_1)).trans hx101_1
        replace p101 := eq_true p101
        replace q101 := eq_true q101
        go_wp2_with (first | ((with_reducible refine gate_dst (N := 6) rfl ?_); refine box_event ?hg (N := 6) ?hd (cs := #[.int .i32 0, .int .i32 0]) (t := 115) ?hr ?_; (case hd => rfl); (case hg => rfl); (case hr => first | (go_simp; done) | (go_simp; rfl)); intro gb102 hg w8 hbox hb; have n0_ := Aside0.mk (below_step (by repeat (first | (with_reducible first | exact HB.out | apply below_alloc | apply pw_below_drewN | apply below_drew1) | exact HB.out)) hb); have n1_ := Aside0.mk (hbox); have n2_ := Aside0.mk ((by rw [hg]; exact (below_size (by repeat (first | (with_reducible first | exact HB.out | apply below_alloc | apply pw_below_drewN | apply below_drew1) | exact HB.out))) : w.heap.size ≤ gb102)); have n3_ := Aside0.mk ((by rw [hg]; exact (below_size (by repeat (first | (with_reducible first | exact HB.out | apply below_alloc | apply pw_below_drewN | apply below_drew1) | exact HB.out))) : w.heap.size ≤ gb102)); clear HB; have HB := n0_; have BK102 := n1_; have GW102 := n2_; have GE102 := n3_; clear n0_ n1_ n2_ n3_; clear hb hbox hg; have hcz9_0 : w8.cell? ⟨gb102, 0, none⟩ = some (.int .i32 0) := (blk_cell BK102.out 0).trans rfl; have hcz9_1 : w8.cell? ⟨gb102, 1, none⟩ = some (.int .i32 0) := (blk_cell BK102.out 1).trans rfl; have hfz9_0 := blk_frozen BK102.out 0; have hfz9_1 := blk_frozen BK102.out 1))
        go_ret
        exact ⟨by first | rfl | (simp [errW_none, errW_some] <;> rfl) | (simp [*, errW_none, errW_some] <;> rfl), by repeat (first | (with_reducible first | exact HB.out | apply below_alloc | apply pw_below_drewN | apply below_drew1 | refine below_set ?_ GE102.out) | exact HB.out)⟩
       ·rw [if_neg c7] at H
        have c7b0 : decide (a0 ≤ ((rd_T115 l1 x9_1).f1)) = false := decide_eq_false c7
        clear c7
        have H' := Aside0.mk H
        clear H
        have p101 : 0 ≤ (x9_1 : Int) := of_decide_eq_true (by first | (with_reducible assumption) | assumption)
        have q101 : x9_1 < (l1.length : Int) := of_decide_eq_true (by first | (with_reducible assumption) | assumption)
        obtain ⟨ad101, e101, hx101_0, hx101_1⟩ := at_T115 HR1.out x9_1 p101 q101
        cases e101
        replace hx101_0 := (HB.out.cell (World.block_lt_of_cell? w _ hx101_0)).trans hx101_0
        replace hx101_1 := (HB.out.cell (World.block_lt_of_cell? w _ hx101_1)).trans hx101_1
        replace p101 := eq_true p101
        replace q101 := eq_true q101
        go_wp2_with (first | ((with_reducible refine gate_dst (N := 6) rfl ?_); refine box_event ?hg (N := 6) ?hd (cs := #[.int .i32 0, .int .i32 0]) (t := 115) ?hr ?_; (case hd => rfl); (case hg => rfl); (case hr => first | (go_simp; done) | (go_simp; rfl)); intro gb102 hg w10 hbox hb; have n0_ := Aside0.mk (below_step (by repeat (first | (with_reducible first | exact HB.out | apply below_alloc | apply pw_below_drewN | apply below_drew1) | exact HB.out)) hb); have n1_ := Aside0.mk (hbox); have n2_ := Aside0.mk ((by rw [hg]; exact (below_size (by repeat (first | (with_reducible first | exact HB.out | apply below_alloc | apply pw_below_drewN | apply below_drew1) | exact HB.out))) : w.heap.size ≤ gb102)); have n3_ := Aside0.mk ((by rw [hg]; exact (below_size (by repeat (first | (with_reducible first | exact HB.out | apply below_alloc | apply pw_below_drewN | apply below_drew1) | exact HB.out))) : w.heap.size ≤ gb102)); clear HB; have HB := n0_; have BK102 := n1_; have GW102 := n2_; have GE102 := n3_; clear n0_ n1_ n2_ n3_; clear hb hbox hg; have hcz11_0 : w10.cell? ⟨gb102, 0, none⟩ = some (.int .i32 0) := (blk_cell BK102.out 0).trans rfl; have hcz11_1 : w10.cell? ⟨gb102, 1, none⟩ = some (.int .i32 0) := (blk_cell BK102.out 1).trans rfl; have hfz11_0 := blk_frozen BK102.out 0; have hfz11_1 := blk_frozen BK102.out 1))
        go_roundg k1
        case measure => have := HK1.out; omega
        case rel => exact ⟨(wrap64 (x9_1 + 1)), (by first | rfl | (simp; done) | (simp [*]; done)), H', ⟨by have := HK1.out; omega⟩, ⟨by repeat (first | (with_reducible first | exact HB.out | apply below_alloc | apply pw_below_drewN | apply below_drew1 | refine below_set ?_ GE102.out) | exact HB.out)⟩⟩
      ·rw [if_neg c6] at H
       have c6b0 : decide (((rd_T115 l1 x9_1).f0) ≤ a0) = false := decide_eq_false c6
       clear c6
       have H' := Aside0.mk H
       clear H
       have p101 : 0 ≤ (x9_1 : Int) := of_decide_eq_true (by first | (with_reducible assumption) | assumption)
       have q101 : x9_1 < (l1.length : Int) := of_decide_eq_true (by first | (with_reducible assumption) | assumption)
       obtain ⟨ad101, e101, hx101_0, hx101_1⟩ := at_T115 HR1.out x9_1 p101 q101
       cases e101
       replace hx101_0 := (HB.out.cell (World.block_lt_of_cell? w _ hx101_0)).trans hx101_0
       replace hx101_1 := (HB.out.cell (World.block_lt_of_cell? w _ hx101_1)).trans hx101_1
       replace p101 := eq_true p101
       replace q101 := eq_true q101
       go_wp2_with (first | ((with_reducible refine gate_dst (N := 6) rfl ?_); refine box_event ?hg (N := 6) ?hd (cs := #[.int .i32 0, .int .i32 0]) (t := 115) ?hr ?_; (case hd => rfl); (case hg => rfl); (case hr => first | (go_simp; done) | (go_simp; rfl)); intro gb102 hg w12 hbox hb; have n0_ := Aside0.mk (below_step (by repeat (first | (with_reducible first | exact HB.out | apply below_alloc | apply pw_below_drewN | apply below_drew1) | exact HB.out)) hb); have n1_ := Aside0.mk (hbox); have n2_ := Aside0.mk ((by rw [hg]; exact (below_size (by repeat (first | (with_reducible first | exact HB.out | apply below_alloc | apply pw_below_drewN | apply below_drew1) | exact HB.out))) : w.heap.size ≤ gb102)); have n3_ := Aside0.mk ((by rw [hg]; exact (below_size (by repeat (first | (with_reducible first | exact HB.out | apply below_alloc | apply pw_below_drewN | apply below_drew1) | exact HB.out))) : w.heap.size ≤ gb102)); clear HB; have HB := n0_; have BK102 := n1_; have GW102 := n2_; have GE102 := n3_; clear n0_ n1_ n2_ n3_; clear hb hbox hg; have hcz13_0 : w12.cell? ⟨gb102, 0, none⟩ = some (.int .i32 0) := (blk_cell BK102.out 0).trans rfl; have hcz13_1 : w12.cell? ⟨gb102, 1, none⟩ = some (.int .i32 0) := (blk_cell BK102.out 1).trans rfl; have hfz13_0 := blk_frozen BK102.out 0; have hfz13_1 := blk_frozen BK102.out 1))
       go_roundg k1
       case measure => have := HK1.out; omega
       case rel => exact ⟨(wrap64 (x9_1 + 1)), (by first | rfl | (simp; done) | (simp [*]; done)), H', ⟨by have := HK1.out; omega⟩, ⟨by repeat (first | (with_reducible first | exact HB.out | apply below_alloc | apply pw_below_drewN | apply below_drew1 | refine below_set ?_ GE102.out) | exact HB.out)⟩⟩
     ·rw [if_neg c5] at H
      exact absurd H (by simp)
    ·rw [if_neg c4] at H
     exact absurd H (by simp)
   ·rw [if_neg c3] at H
    have c3b0 : decide (x9_1 < (l1.length : Int)) = false := decide_eq_false c3
    clear c3
    obtain rfl := Option.some.inj H
    go_wp2
    go_ret
    exact ⟨by first | rfl | (simp [errW_none, errW_some] <;> rfl) | (simp [*, errW_none, errW_some] <;> rfl), by repeat (first | (with_reducible first | exact HB.out | apply below_alloc | apply pw_below_drewN | apply below_drew1) | exact HB.out)⟩
def name_letter.f (k : Nat) (a0 : Int) : Option (Bool) := (name_within.f k a0 (([(⟨97, 122⟩ : S115), (⟨48, 57⟩ : S115), (⟨45, 45⟩ : S115), (⟨223, 246⟩ : S115), (⟨248, 255⟩ : S115), (⟨945, 969⟩ : S115), (⟨1072, 1103⟩ : S115)] : List (S115)))).bind fun t106 => (some t106)
set_option maxHeartbeats 8000000 in
set_option maxRecDepth 100000 in
theorem name_letter.calls (k : Nat) (a0 : Int) (r : Bool) (w : World) (h : name_letter.f k a0 = some r) :
  Calls Tryz.prog 84 #[.int .i32 a0] w fun e w' => e = .returned (.bool r) ∧ Below w.heap.size w w' := by
 have hu115 := Tryz.underlying115
 have HB := Aside0.mk (Below.refl w.heap.size w)
 have H : ((name_within.f k a0 (([(⟨97, 122⟩ : S115), (⟨48, 57⟩ : S115), (⟨45, 45⟩ : S115), (⟨223, 246⟩ : S115), (⟨248, 255⟩ : S115), (⟨945, 969⟩ : S115), (⟨1072, 1103⟩ : S115)] : List (S115)))).bind fun t106 => (some t106)) = some r := h
 clear h
 obtain ⟨y103, hy103⟩ : ∃ y_ : List (S115), y_ = (([(⟨97, 122⟩ : S115), (⟨48, 57⟩ : S115), (⟨45, 45⟩ : S115), (⟨223, 246⟩ : S115), (⟨248, 255⟩ : S115), (⟨945, 969⟩ : S115), (⟨1072, 1103⟩ : S115)] : List (S115))) := ⟨_, rfl⟩
 replace H : ((name_within.f k a0 y103).bind fun t106 => (some t106)) = some r := by first | (rw [hy103]; with_reducible exact H) | (have H2_ := (Option.bind_some _ _).symm.trans H; rw [hy103]; with_reducible exact H2_) | (have H2_ := (Option.bind_some _ _).symm.trans H; with_reducible exact H2_) | with_reducible exact H | (rw [hy103]; exact H) | exact H
 have Ny103 := Aside0.mk hy103
 clear hy103
 replace H := Option.bind_eq_some_iff.mp H
 obtain ⟨t106, A20, H⟩ := H
 replace H : (some t106) = some r := H
 have A2 := Aside0.mk A20
 clear A20
 obtain rfl := Option.some.inj H
 go_enter Tryz.func84, Tryz.ntmps84
 go_wp2_with (first | ((with_reducible refine gate_dst (N := 11) rfl ?_); refine Kd.R_lit k115 _ 115 ?hg (N := 11) ?hd (xs := ([(⟨97, 122⟩ : S115), (⟨48, 57⟩ : S115), (⟨45, 45⟩ : S115), (⟨223, 246⟩ : S115), (⟨248, 255⟩ : S115), (⟨945, 969⟩ : S115), (⟨1072, 1103⟩ : S115)] : List (S115))) (inner := [.int .i32 97, .int .i32 122, .int .i32 48, .int .i32 57, .int .i32 45, .int .i32 45, .int .i32 223, .int .i32 246, .int .i32 248, .int .i32 255, .int .i32 945, .int .i32 969, .int .i32 1072, .int .i32 1103]) (ok := fun _ => True) (okp := fun _ => True) ?hr ?hp (fun _ hk => hk) trivial (Below.refl _ _) (Nat.le_refl _) (by simp) ?_; (case hd => rfl); (case hg => rfl); (case hr => first | (go_simp; done) | (go_simp; rfl)); (case hp => exact (Reps.c2 (show Kd.M k115 _ _ _ (⟨97, 122⟩ : S115) [.int .i32 97, .int .i32 122] from (k115_mkM _ _ _ (⟨97, 122⟩ : S115) )) (Reps.c2 (show Kd.M k115 _ _ _ (⟨48, 57⟩ : S115) [.int .i32 48, .int .i32 57] from (k115_mkM _ _ _ (⟨48, 57⟩ : S115) )) (Reps.c2 (show Kd.M k115 _ _ _ (⟨45, 45⟩ : S115) [.int .i32 45, .int .i32 45] from (k115_mkM _ _ _ (⟨45, 45⟩ : S115) )) (Reps.c2 (show Kd.M k115 _ _ _ (⟨223, 246⟩ : S115) [.int .i32 223, .int .i32 246] from (k115_mkM _ _ _ (⟨223, 246⟩ : S115) )) (Reps.c2 (show Kd.M k115 _ _ _ (⟨248, 255⟩ : S115) [.int .i32 248, .int .i32 255] from (k115_mkM _ _ _ (⟨248, 255⟩ : S115) )) (Reps.c2 (show Kd.M k115 _ _ _ (⟨945, 969⟩ : S115) [.int .i32 945, .int .i32 969] from (k115_mkM _ _ _ (⟨945, 969⟩ : S115) )) (Reps.c2 (show Kd.M k115 _ _ _ (⟨1072, 1103⟩ : S115) [.int .i32 1072, .int .i32 1103] from (k115_mkM _ _ _ (⟨1072, 1103⟩ : S115) )) (Reps.none _ _))))))))); intro v104 w3 ho4 hb hg_ hnew_; clear hg_ hnew_; (first | rw [← Ny103.out] at ho4 | (simp only [Int.reduceToNat] at ho4; rw [← Ny103.out] at ho4)); have n0_ := Aside0.mk (Kd.R_lower ho4 (below_size (by repeat (first | (with_reducible first | exact HB.out | apply below_alloc | apply pw_below_drewN | apply below_drew1) | exact HB.out)))); have n1_ := Aside0.mk (below_step (by repeat (first | (with_reducible first | exact HB.out | apply below_alloc | apply pw_below_drewN | apply below_drew1) | exact HB.out)) hb); clear HB; have HO105 := n0_; have HB := n1_; clear n0_ n1_; clear hb ho4; obtain ⟨Ao5, co5, eo5⟩ := Kd.R_slice HO105.out; subst eo5) | ((with_reducible refine gate_callee (f := 92) rfl ?_); refine goesL_ (some 12) rfl rfl Tryz.func92 (by kernel_rfl) rfl #[.int .i32 a0, .slice Ao5 y103.length co5] rfl (by (try simp only [List.map_toArray, List.map_cons, List.map_nil]); first | done | rfl | (simp only [List.length_drop, List.length_take]; rfl)) ?_; (with_reducible refine (name_within.calls k a0 _ _ y103 t106 _ ?side1 ?side2 A2.out).mono ?_); (case side1 => repeat (first | exact (Kd.R_reads' HO105.out).2.2 | (with_reducible refine Kd.C_alloc ?_ _) | (with_reducible refine Kd.C_drewN ?_ _) | (with_reducible refine Kd.C_drew ?_))); (case side2 => exact (Kd.R_reads' HO105.out).2.1); rintro e w6 ⟨rfl, hb⟩; refine ⟨_, rfl, ?_⟩; have n0_ := Aside0.mk (Kd.R_below (by (with_reducible repeat (first | apply Kd.R_alloc | apply Kd.R_drewN | apply Kd.R_drew)); exact HO105.out) hb); have n1_ := Aside0.mk (below_step (by repeat (first | (with_reducible first | exact HB.out | apply below_alloc | apply pw_below_drewN | apply below_drew1) | exact HB.out)) hb); clear HO105; clear HB; have HO105 := n0_; have HB := n1_; clear n0_ n1_; (try clear hb); (try clear hb2); (try clear hk); (try clear hi)))
 go_ret
 exact ⟨by first | rfl | (simp [errW_none, errW_some] <;> rfl) | (simp [*, errW_none, errW_some] <;> rfl), by repeat (first | (with_reducible first | exact HB.out | apply below_alloc | apply pw_below_drewN | apply below_drew1) | exact HB.out)⟩
end Go.Proofs.YtlhoahbpklhpmaaGreatDoor.PL
end
section

namespace Go.Proofs.YtlhoahbpklhpmaaGreatDoor.Ref
open Go.RowKit Go.Proofs.YtlhoahbpklhpmaaGreatDoor Go.Proofs.YtlhoahbpklhpmaaGreatDoor.PL Go.Proofs.YtlhoahbpklhpmaaGreatDoorW.PrintWords Go.Proofs.YtlhoahbpklhpmaaGreatDoorW.PrintLast
set_option linter.unusedVariables false
theorem within_loop (r : Int) (l : List S115) (hl : l.length ≤ 1000) (m i : Nat) (hm : i + m = l.length) :
  Ev (fun k => name_within.l0 k r l (l.length : Int) (i : Int)) ((l.drop i).any fun s => decide (s.f0 ≤ r ∧ r ≤ s.f1)) := by
 induction m generalizing i with
 | zero =>
  rw [List.drop_eq_nil_of_le (by omega)]
  exact Ev.step (fun _ => rfl) (Ev.neg (by omega) (Ev.now _))
 | succ m ih =>
  have hi : i < l.length := by omega
  have hr : rd_T115 l (i : Int) = l[i] := by
   unfold rd_T115
   rw [Int.toNat_natCast, List.getD_eq_getElem?_getD, List.getElem?_eq_getElem hi]; rfl
  have ih := ih (i + 1) (by omega)
  rw [List.drop_eq_getElem_cons hi, List.any_cons]
  refine Ev.step (fun _ => rfl) (Ev.pos (by omega) (Ev.pos (by omega) (Ev.pos (by omega) ?_)))
  rw [hr, w64 (n := (i : Int) + 1) (by omega) (by omega)]
  by_cases h1 : r ≥ l[i].f0
  ·refine Ev.pos h1 ?_
   by_cases h2 : r ≤ l[i].f1
   ·rw [decide_eq_true ⟨h1, h2⟩, Bool.true_or]
    exact Ev.pos h2 (Ev.now _)
   ·rw [decide_eq_false (fun h => h2 h.2), Bool.false_or]
    exact Ev.neg h2 ih
  ·rw [decide_eq_false (fun h => h1 h.1), Bool.false_or]
   exact Ev.neg h1 ih
theorem letter_ev (r : Int) : Ev (fun k => name_letter.f k r) (letterZ r) := by
 unfold name_letter.f
 refine Ev.bind (a := letterZ r) ?_ (Ev.now _)
 unfold name_within.f
 refine ev_cast (within_loop r _ (by simp) 7 0 rfl) ?_
 simp only [List.drop_zero, List.any_cons, List.any_nil, Bool.or_false, letterZ]
 have e : decide ((45 : Int) ≤ r ∧ r ≤ 45) = decide (r = 45) := by
  by_cases h : r = 45
  ·rw [decide_eq_true h, decide_eq_true (by omega)]
  ·rw [decide_eq_false h, decide_eq_false (by omega)]
 rw [e]
 simp only [Bool.or_assoc]
theorem letter_calls (r : Int) (w : World) : Calls Tryz.prog 84 #[.int .i32 r] w fun e w' => e = .returned (.bool (letterZ r)) ∧ Below w.heap.size w w' := by
 obtain ⟨K, h⟩ := letter_ev r
 exact name_letter.calls K r _ w (h K (Nat.le_refl _))
end Go.Proofs.YtlhoahbpklhpmaaGreatDoor.Ref
end
section

namespace Go.Proofs.YtlhoahbpklhpmaaGreatDoor
open Go.RowKit Go.Proofs.YtlhoahbpklhpmaaGreatDoorW.PrintWords Go.Proofs.YtlhoahbpklhpmaaGreatDoor.Ref
set_option linter.unusedVariables false
def Tabs (w : World) : Prop := Lib.Utf8Tabs 0 1 w ∧ ∃ m, w.cell? ⟨2, 0, none⟩ = some (.int .i64 m)
theorem Tabs.below {w w' : World} (h : Tabs w) (hb : Below w.heap.size w w') : Tabs w' := by
 obtain ⟨h1, m, h2⟩ := h
 exact ⟨Go.Proofs.Utf8Tabs_below h1 hb, m, pw_cell_below hb h2⟩
def strings_Cut.f (a0 a1 : ByteArray) : Option (ByteArray × ByteArray × Bool) :=
 if a0.size < 4294967281 then some (ofBytes (Lib.cut (bytes a0) (bytes a1)).1, ofBytes (Lib.cut (bytes a0) (bytes a1)).2.1, (Lib.cut (bytes a0) (bytes a1)).2.2) else none
theorem strings_Cut.calls (a0 a1 : ByteArray) (r1 r2 : ByteArray) (r3 : Bool) (w : World) (HTB : Aside0 (Tabs w)) (h : strings_Cut.f a0 a1 = some (r1, r2, r3)) :
  Calls Tryz.prog 67 #[.string a0, .string a1] w fun e w' => e = .returned (.tuple #[.string r1, .string r2, .bool r3]) ∧ Drawn0 w w' := by
 unfold strings_Cut.f at h
 split at h
 ·rename_i hs
  simp only [Option.some.injEq, Prod.mk.injEq] at h
  obtain ⟨rfl, rfl, rfl⟩ := h
  obtain ⟨_, m, hm⟩ := HTB.out
  refine (Tryz.strings_Cut a0 a1 m w hs hm).mono ?_
  rintro e w' ⟨rfl, n, rfl⟩
  exact ⟨rfl, ⟨n, rfl⟩⟩
 ·exact absurd h (by simp)
theorem decode_drop (s : ByteArray) (pos : Nat) : Lib.decodeL ((bytes s).drop pos) = Utf8.decode s pos := Lib.decodeL_drop s pos
set_option maxHeartbeats 4000000 in
set_option maxRecDepth 100000 in
theorem right_any (s : ByteArray) (w : World) (hs : s.size ≤ 9223372036854775807) (hT : Tabs w) :
  Calls Tryz.prog 68 #[.string s] w fun e w' => e = .returned (.bool (rightN (bytes s))) ∧ Below w.heap.size w w' := by
 have HV := Lib.hid (Tryz.ValidString s w hs hT.1)
 have hll := runesD_len (bytes s)
 rw [bytes_length] at hll
 obtain ⟨R, hR⟩ : ∃ R, rightN (bytes s) = R := ⟨_, rfl⟩
 rw [hR]
 go_enter Tryz.func68, Tryz.ntmps68
 go_wp2_with fail
 refine HV.out.mono ?_
 rintro e w1 ⟨rfl, hb⟩
 have HB := Lib.hid hb
 clear hb HV hT
 cases hv : Lib.validD s.data.toList with
 | false =>
  have hv' : Lib.validD (bytes s) = false := hv
  unfold rightN at hR
  rw [hv', Bool.false_and, Bool.false_and] at hR
  subst hR
  go_wp2
  go_ret
  exact ⟨rfl, HB.out⟩
 | true =>
  have hv' : Lib.validD (bytes s) = true := hv
  have hR1 : ((runesD (bytes s)).all letterZ && decide (1 ≤ (runesD (bytes s)).length ∧ (runesD (bytes s)).length ≤ 32)) = R := by
   rw [← hR]; unfold rightN; rw [hv', Bool.true_and]
  have HR := Lib.hid hR1
  have HLL := Lib.hid hll
  clear hR hR1 hv hv' hll
  generalize hK : w1.heap.size = K
  go_wp2
  go_loopw [3] (fun n wr => ∃ (pos : Nat) (k : Nat), n = .int .i64 k ∧ wr.heap[K]? = some (.stringIter s pos) ∧ Hid (Below w.heap.size w wr ∧ w.heap.size ≤ K ∧ k + (runesD ((bytes s).drop pos)).length = (runesD (bytes s)).length ∧ (runesD (bytes s)).all letterZ = (runesD ((bytes s).drop pos)).all letterZ)) (fun n wr => s.size - wr.iterPos K)
  case atStart =>
   have h1 := HB.out.size
   refine ⟨0, 0, rfl, ?_, Lib.hid ⟨HB.out.alloc h1 _, by omega, by simp, by simp⟩⟩
   subst hK
   have := World.iter_heap w1 s 0
   simpa using this
  case round =>
   obtain ⟨pos, k, rfl, hit, hh⟩ := hrel
   have hsz : K < wr.heap.size := (Array.getElem?_eq_some_iff.1 hit).1
   by_cases hp : pos < s.size
   ·have hnx : ∀ ty, (Instr.next (.pointer (some ⟨K, 0, none⟩)) true ty).run Tryz.prog wr = _ := fun ty => Lib.run_next_any_at wr K s pos ty hit hp
    have hwd := Lib.width_pos s pos
    have hne : (bytes s).drop pos ≠ [] := fun e => by have := congrArg List.length e; rw [List.length_drop, bytes_length] at this; simp at this; omega
    have hst := runesD_step hne
    rw [decode_drop, List.drop_drop] at hst
    have hit2 := Lib.iterAt_heap wr K s pos (pos + (Utf8.decode s pos).2) hit
    have hsz2 : (wr.iterAt K s (pos + (Utf8.decode s pos).2)).heap.size = wr.heap.size := Lib.iterAt_size _ _ _ _
    have HW2 := Lib.hid (Lib.below_iterAt hh.out.1 (k := K) hh.out.2.1 s (pos + (Utf8.decode s pos).2))
    have HL := Lib.hid (letter_calls (((Utf8.decode s pos).1 : Nat) : Int) (wr.iterAt K s (pos + (Utf8.decode s pos).2)))
    have HS := Lib.hid hst
    have hrl := Lib.hid hh.out.2.2
    have hK0 := hh.out.2.1
    clear hst hne hh
    cases hl : letterZ (((Utf8.decode s pos).1 : Nat) : Int) with
    | false =>
     rw [hl] at HL
     go_wp2_with fail
     refine HL.out.mono ?_
     rintro e w2 ⟨rfl, hb⟩
     have HB2 := Lib.hid (HW2.out.trans (hb.mono HW2.out.size))
     clear hb HL
     go_wp2
     go_ret
     refine ⟨?_, HB2.out⟩
     have h1 := hrl.out.2
     rw [HS.out, List.all_cons, hl, Bool.false_and] at h1
     have h2 : R = false := by rw [← HR.out, h1, Bool.false_and]
     rw [h2]; rfl
    | true =>
     rw [hl] at HL
     go_wp2_with fail
     refine HL.out.mono ?_
     rintro e w2 ⟨rfl, hb⟩
     have HB2 := Lib.hid (HW2.out.trans (hb.mono HW2.out.size))
     have hit3 : w2.heap[K]? = some (.stringIter s (pos + (Utf8.decode s pos).2)) := by rw [hb.block K (by omega)]; exact hit2
     clear hb HL
     go_wp2
     go_roundw
     case rel =>
      have h1 := hrl.out
      rw [HS.out, List.all_cons, hl, Bool.true_and, List.length_cons] at h1
      refine ⟨pos + (Utf8.decode s pos).2, k + 1, ?_, hit3, Lib.hid ⟨HB2.out, ?_, by omega, h1.2⟩⟩
      ·have := HLL.out
       rw [w64 (by omega) (by omega)]; rfl
      ·omega
     case measure =>
      simp only [World.iterPos, hit3, hit]
      omega
   ·have hnx : ∀ ty, (Instr.next (.pointer (some ⟨K, 0, none⟩)) true ty).run Tryz.prog wr = _ := fun ty => Lib.run_next_end_at wr K s pos ty hit hp
    have he : (bytes s).drop pos = [] := List.drop_eq_nil_of_le (by rw [bytes_length]; omega)
    have hrl := hh.out
    rw [he] at hrl
    simp only [runesD_nil, List.length_nil, Nat.add_zero, List.all_nil] at hrl
    have HRL := Lib.hid hrl
    clear hrl hh he
    by_cases h1 : 1 ≤ k
    ·have h1z : (k : Int) ≥ 1 := by omega
     by_cases h2 : k ≤ 32
     ·have h2z : (k : Int) ≤ 32 := by omega
      go_wp2
      go_ret
      refine ⟨?_, HRL.out.1⟩
      have h3 : R = true := by rw [← HR.out, HRL.out.2.2.2, ← HRL.out.2.2.1, decide_eq_true ⟨h1, h2⟩]; rfl
      rw [h3]; rfl
     ·have h2z : ¬ (k : Int) ≤ 32 := by omega
      go_wp2
      go_ret
      refine ⟨?_, HRL.out.1⟩
      have h3 : R = false := by rw [← HR.out, HRL.out.2.2.2, ← HRL.out.2.2.1, decide_eq_false (fun h => h2 h.2)]; rfl
      rw [h3]; rfl
    ·have h1z : ¬ (k : Int) ≥ 1 := by omega
     go_wp2
     go_ret
     refine ⟨?_, HRL.out.1⟩
     have h3 : R = false := by rw [← HR.out, HRL.out.2.2.2, ← HRL.out.2.2.1, decide_eq_false (fun h => h1 h.1)]; rfl
     rw [h3]; rfl
 
def name_Right.f (a0 : ByteArray) : Option Bool := if a0.size ≤ 9223372036854775807 then some (rightN (bytes a0)) else none
theorem name_Right.calls (a0 : ByteArray) (r : Bool) (w : World) (HTB : Aside0 (Tabs w)) (h : name_Right.f a0 = some r) :
  Calls Tryz.prog 68 #[.string a0] w fun e w' => e = .returned (.bool r) ∧ Below w.heap.size w w' := by
 unfold name_Right.f at h
 split at h
 ·rename_i hs
  obtain rfl := Option.some.inj h
  exact right_any a0 w hs HTB.out
 ·exact absurd h (by simp)
end Go.Proofs.YtlhoahbpklhpmaaGreatDoor
end
section

namespace Go.Proofs.YtlhoahbpklhpmaaGreatDoor.PB
open Go.RowKit Go.Proofs.YtlhoahbpklhpmaaGreatDoorW.PrintWords Go.Proofs.YtlhoahbpklhpmaaGreatDoorW.PrintLast Go.Proofs.YtlhoahbpklhpmaaGreatDoorW.PrintMore
attribute [local go_sem] max2_int min2_int max_two min_two max_three min_three max_four min_four   -- for this text's walks alone
set_option linter.unusedVariables false
set_option linter.unusedSimpArgs false
def errW : Option Int → Value
 | none => .nilIface
 | some c => .iface 0 (.int .i64 c)
theorem errW_none : errW none = .nilIface := rfl
theorem errW_some (c : Int) : errW (some c) = .iface 0 (.int .i64 c) := rfl
end Go.Proofs.YtlhoahbpklhpmaaGreatDoor.PB
end
section

namespace Go.Proofs.YtlhoahbpklhpmaaGreatDoor.PB
open Go.RowKit Go.Proofs.YtlhoahbpklhpmaaGreatDoorW.PrintWords Go.Proofs.YtlhoahbpklhpmaaGreatDoorW.PrintLast Go.Proofs.YtlhoahbpklhpmaaGreatDoorW.PrintMore
attribute [local go_sem] max2_int min2_int max_two min_two max_three min_three max_four min_four   -- for this text's walks alone
set_option linter.unusedVariables false
set_option linter.unusedSimpArgs false
def name_Split.f (a0 : ByteArray) : Option (ByteArray × ByteArray × Int) := (strings_Cut.f a0 (⟨#[47]⟩ : ByteArray)).bind fun bt101 => ((name_Right.f bt101.1).bind fun t104 => (if t104 = true then ((name_Right.f bt101.2.1).bind fun t105 => (if t105 = true then (some (bt101.1, bt101.2.1, 0)) else (some ((⟨#[]⟩ : ByteArray), (⟨#[]⟩ : ByteArray), 3)))) else (some ((⟨#[]⟩ : ByteArray), (⟨#[]⟩ : ByteArray), 3))))
set_option maxHeartbeats 8000000 in
set_option maxRecDepth 100000 in
theorem name_Split.calls (a0 : ByteArray) (r1 : ByteArray) (r2 : ByteArray) (r3 : Int) (w : World) (HTB : Aside0 (Tabs w)) (h : name_Split.f a0 = some (r1, r2, r3)) :
  Calls Tryz.prog 32 #[.string a0] w fun e w' => e = .returned (.tuple #[.string r1, .string r2, .int .i64 r3]) ∧ Below w.heap.size w w' := by
 have HB := Aside0.mk (Below.refl w.heap.size w)
 have H : ((strings_Cut.f a0 (⟨#[47]⟩ : ByteArray)).bind fun bt101 => ((name_Right.f bt101.1).bind fun t104 => (if t104 = true then ((name_Right.f bt101.2.1).bind fun t105 => (if t105 = true then (some (bt101.1, bt101.2.1, 0)) else (some ((⟨#[]⟩ : ByteArray), (⟨#[]⟩ : ByteArray), 3)))) else (some ((⟨#[]⟩ : ByteArray), (⟨#[]⟩ : ByteArray), 3))))) = some (r1, r2, r3) := h
 clear h
 replace H := Option.bind_eq_some_iff.mp H
 obtain ⟨⟨t101, t102, t103⟩, A20, H⟩ := H
 replace H : ((name_Right.f t101).bind fun t104 => (if t104 = true then ((name_Right.f t102).bind fun t105 => (if t105 = true then (some (t101, t102, 0)) else (some ((⟨#[]⟩ : ByteArray), (⟨#[]⟩ : ByteArray), 3)))) else (some ((⟨#[]⟩ : ByteArray), (⟨#[]⟩ : ByteArray), 3)))) = some (r1, r2, r3) := H
 have A2 := Aside0.mk A20
 clear A20
 replace H := Option.bind_eq_some_iff.mp H
 obtain ⟨t104, A30, H⟩ := H
 replace H : (if t104 = true then ((name_Right.f t102).bind fun t105 => (if t105 = true then (some (t101, t102, 0)) else (some ((⟨#[]⟩ : ByteArray), (⟨#[]⟩ : ByteArray), 3)))) else (some ((⟨#[]⟩ : ByteArray), (⟨#[]⟩ : ByteArray), 3))) = some (r1, r2, r3) := H
 have A3 := Aside0.mk A30
 clear A30
 by_cases c4 : t104 = true
 ·subst c4
  have H1 : ((name_Right.f t102).bind fun t105 => (if t105 = true then (some (t101, t102, 0)) else (some ((⟨#[]⟩ : ByteArray), (⟨#[]⟩ : ByteArray), 3)))) = some (r1, r2, r3) := by rw [if_pos rfl] at H; exact H
  clear H
  have H := H1
  clear H1
  replace H := Option.bind_eq_some_iff.mp H
  obtain ⟨t105, A50, H⟩ := H
  replace H : (if t105 = true then (some (t101, t102, 0)) else (some ((⟨#[]⟩ : ByteArray), (⟨#[]⟩ : ByteArray), 3))) = some (r1, r2, r3) := H
  have A5 := Aside0.mk A50
  clear A50
  by_cases c6 : t105 = true
  ·subst c6
   have H1 : (some (t101, t102, 0)) = some (r1, r2, r3) := by rw [if_pos rfl] at H; exact H
   clear H
   have H := H1
   clear H1
   simp only [Option.some.injEq, Prod.mk.injEq] at H
   obtain ⟨rfl, rfl, rfl⟩ := H
   go_enter Tryz.func32, Tryz.ntmps32
   go_wp2_with (first | ((with_reducible refine gate_callee (f := 67) rfl ?_); refine goesL_ (some 10) rfl rfl Tryz.func67 (by kernel_rfl) rfl #[.string a0, .string (⟨#[47]⟩ : ByteArray)] rfl (by (try simp only [List.map_toArray, List.map_cons, List.map_nil]); first | done | rfl | (simp only [List.length_drop, List.length_take]; rfl)) ?_; (with_reducible refine (strings_Cut.calls a0 (⟨#[47]⟩ : ByteArray) t101 t102 t103 _ ?side1 A2.out).mono ?_); (case side1 => exact ⟨Tabs.below HTB.out (by repeat (first | (with_reducible first | exact HB.out | apply below_alloc | apply pw_below_drewN | apply below_drew1) | exact HB.out))⟩); rintro e w' ⟨rfl, ⟨nd, rfl⟩⟩; refine ⟨_, rfl, ?_⟩) | ((with_reducible refine gate_callee (f := 68) rfl ?_); refine goesL_ (some 15) rfl rfl Tryz.func68 (by kernel_rfl) rfl #[.string t101] rfl (by (try simp only [List.map_toArray, List.map_cons, List.map_nil]); first | done | rfl | (simp only [List.length_drop, List.length_take]; rfl)) ?_; (with_reducible refine (name_Right.calls t101 true _ ?side1 A3.out).mono ?_); (case side1 => exact ⟨Tabs.below HTB.out (by repeat (first | (with_reducible first | exact HB.out | apply below_alloc | apply pw_below_drewN | apply below_drew1) | exact HB.out))⟩); rintro e w7 ⟨rfl, hb⟩; refine ⟨_, rfl, ?_⟩; have n0_ := Aside0.mk (below_step (by repeat (first | (with_reducible first | exact HB.out | apply below_alloc | apply pw_below_drewN | apply below_drew1) | exact HB.out)) hb); clear HB; have HB := n0_; clear n0_; (try clear hb); (try clear hb2); (try clear hk); (try clear hi)) | (go_at_call 68; (with_reducible refine (name_Right.calls t102 true _ ?side1 A5.out).mono ?_); (case side1 => exact ⟨Tabs.below HTB.out (by repeat (first | (with_reducible first | exact HB.out | apply below_alloc | apply pw_below_drewN | apply below_drew1) | exact HB.out))⟩); rintro e w8 ⟨rfl, hb⟩; have n0_ := Aside0.mk (below_step (by repeat (first | (with_reducible first | exact HB.out | apply below_alloc | apply pw_below_drewN | apply below_drew1) | exact HB.out)) hb); clear HB; have HB := n0_; clear n0_; (try clear hb); (try clear hb2); (try clear hk); (try clear hi)))
   go_ret3
   exact ⟨by first | rfl | (simp [errW_none, errW_some] <;> rfl) | (simp [*, errW_none, errW_some] <;> rfl), by repeat (first | (with_reducible first | exact HB.out | apply below_alloc | apply pw_below_drewN | apply below_drew1) | exact HB.out)⟩
  ·replace c6 := Bool.eq_false_iff.mpr c6
   subst c6
   have H1 : (some ((⟨#[]⟩ : ByteArray), (⟨#[]⟩ : ByteArray), 3)) = some (r1, r2, r3) := by rw [if_neg (show ¬ (false = true) by decide)] at H; exact H
   clear H
   have H := H1
   clear H1
   simp only [Option.some.injEq, Prod.mk.injEq] at H
   obtain ⟨rfl, rfl, rfl⟩ := H
   go_enter Tryz.func32, Tryz.ntmps32
   go_wp2_with (first | ((with_reducible refine gate_callee (f := 67) rfl ?_); refine goesL_ (some 10) rfl rfl Tryz.func67 (by kernel_rfl) rfl #[.string a0, .string (⟨#[47]⟩ : ByteArray)] rfl (by (try simp only [List.map_toArray, List.map_cons, List.map_nil]); first | done | rfl | (simp only [List.length_drop, List.length_take]; rfl)) ?_; (with_reducible refine (strings_Cut.calls a0 (⟨#[47]⟩ : ByteArray) t101 t102 t103 _ ?side1 A2.out).mono ?_); (case side1 => exact ⟨Tabs.below HTB.out (by repeat (first | (with_reducible first | exact HB.out | apply below_alloc | apply pw_below_drewN | apply below_drew1) | exact HB.out))⟩); rintro e w' ⟨rfl, ⟨nd, rfl⟩⟩; refine ⟨_, rfl, ?_⟩) | ((with_reducible refine gate_callee (f := 68) rfl ?_); refine goesL_ (some 15) rfl rfl Tryz.func68 (by kernel_rfl) rfl #[.string t101] rfl (by (try simp only [List.map_toArray, List.map_cons, List.map_nil]); first | done | rfl | (simp only [List.length_drop, List.length_take]; rfl)) ?_; (with_reducible refine (name_Right.calls t101 true _ ?side1 A3.out).mono ?_); (case side1 => exact ⟨Tabs.below HTB.out (by repeat (first | (with_reducible first | exact HB.out | apply below_alloc | apply pw_below_drewN | apply below_drew1) | exact HB.out))⟩); rintro e w9 ⟨rfl, hb⟩; refine ⟨_, rfl, ?_⟩; have n0_ := Aside0.mk (below_step (by repeat (first | (with_reducible first | exact HB.out | apply below_alloc | apply pw_below_drewN | apply below_drew1) | exact HB.out)) hb); clear HB; have HB := n0_; clear n0_; (try clear hb); (try clear hb2); (try clear hk); (try clear hi)) | (go_at_call 68; (with_reducible refine (name_Right.calls t102 false _ ?side1 A5.out).mono ?_); (case side1 => exact ⟨Tabs.below HTB.out (by repeat (first | (with_reducible first | exact HB.out | apply below_alloc | apply pw_below_drewN | apply below_drew1) | exact HB.out))⟩); rintro e w10 ⟨rfl, hb⟩; have n0_ := Aside0.mk (below_step (by repeat (first | (with_reducible first | exact HB.out | apply below_alloc | apply pw_below_drewN | apply below_drew1) | exact HB.out)) hb); clear HB; have HB := n0_; clear n0_; (try clear hb); (try clear hb2); (try clear hk); (try clear hi)))
   go_ret3
   exact ⟨by first | rfl | (simp [errW_none, errW_some] <;> rfl) | (simp [*, errW_none, errW_some] <;> rfl), by repeat (first | (with_reducible first | exact HB.out | apply below_alloc | apply pw_below_drewN | apply below_drew1) | exact HB.out)⟩
 ·replace c4 := Bool.eq_false_iff.mpr c4
  subst c4
  have H1 : (some ((⟨#[]⟩ : ByteArray), (⟨#[]⟩ : ByteArray), 3)) = some (r1, r2, r3) := by rw [if_neg (show ¬ (false = true) by decide)] at H; exact H
  clear H
  have H := H1
  clear H1
  simp only [Option.some.injEq, Prod.mk.injEq] at H
  obtain ⟨rfl, rfl, rfl⟩ := H
  go_enter Tryz.func32, Tryz.ntmps32
  go_wp2_with (first | ((with_reducible refine gate_callee (f := 67) rfl ?_); refine goesL_ (some 10) rfl rfl Tryz.func67 (by kernel_rfl) rfl #[.string a0, .string (⟨#[47]⟩ : ByteArray)] rfl (by (try simp only [List.map_toArray, List.map_cons, List.map_nil]); first | done | rfl | (simp only [List.length_drop, List.length_take]; rfl)) ?_; (with_reducible refine (strings_Cut.calls a0 (⟨#[47]⟩ : ByteArray) t101 t102 t103 _ ?side1 A2.out).mono ?_); (case side1 => exact ⟨Tabs.below HTB.out (by repeat (first | (with_reducible first | exact HB.out | apply below_alloc | apply pw_below_drewN | apply below_drew1) | exact HB.out))⟩); rintro e w' ⟨rfl, ⟨nd, rfl⟩⟩; refine ⟨_, rfl, ?_⟩) | ((with_reducible refine gate_callee (f := 68) rfl ?_); refine goesL_ (some 15) rfl rfl Tryz.func68 (by kernel_rfl) rfl #[.string t101] rfl (by (try simp only [List.map_toArray, List.map_cons, List.map_nil]); first | done | rfl | (simp only [List.length_drop, List.length_take]; rfl)) ?_; (with_reducible refine (name_Right.calls t101 false _ ?side1 A3.out).mono ?_); (case side1 => exact ⟨Tabs.below HTB.out (by repeat (first | (with_reducible first | exact HB.out | apply below_alloc | apply pw_below_drewN | apply below_drew1) | exact HB.out))⟩); rintro e w11 ⟨rfl, hb⟩; refine ⟨_, rfl, ?_⟩; have n0_ := Aside0.mk (below_step (by repeat (first | (with_reducible first | exact HB.out | apply below_alloc | apply pw_below_drewN | apply below_drew1) | exact HB.out)) hb); clear HB; have HB := n0_; clear n0_; (try clear hb); (try clear hb2); (try clear hk); (try clear hi)))
  go_ret3
  exact ⟨by first | rfl | (simp [errW_none, errW_some] <;> rfl) | (simp [*, errW_none, errW_some] <;> rfl), by repeat (first | (with_reducible first | exact HB.out | apply below_alloc | apply pw_below_drewN | apply below_drew1) | exact HB.out)⟩
end Go.Proofs.YtlhoahbpklhpmaaGreatDoor.PB
end
section

namespace Go.Proofs.YtlhoahbpklhpmaaGreatDoor.Ref
open Go.RowKit Go.Proofs.YtlhoahbpklhpmaaGreatDoor Go.Proofs.YtlhoahbpklhpmaaGreatDoor.PB Go.Proofs.YtlhoahbpklhpmaaGreatDoorW.PrintWords Go.Proofs.YtlhoahbpklhpmaaGreatDoorW.PrintLast
set_option linter.unusedVariables false
theorem index_cons (c : UInt8) (l : Bs) : Lib.index (c :: l) [47] = if c = 47 then 0 else if Lib.index l [47] = -1 then -1 else Lib.index l [47] + 1 := by
 have hp : [(47 : UInt8)].isPrefixOf (c :: l) = (47 == c) := by simp [List.isPrefixOf]
 show (if [(47 : UInt8)].isPrefixOf (c :: l) = true then (0 : Int) else if (Lib.index l [47] == -1) = true then -1 else Lib.index l [47] + 1) = _
 rw [hp]
 by_cases h : c = 47
 ·subst h; simp
 ·rw [if_neg h, if_neg (by simpa using fun e => h e.symm)]
  simp only [beq_iff_eq]
theorem index_at {a b : Bs} (ha : (47 : UInt8) ∉ a) : Lib.index (a ++ 47 :: b) [47] = (a.length : Int) := by
 induction a with
 | nil => rw [List.nil_append, index_cons, if_pos rfl]; rfl
 | cons c a ih =>
  have ih := ih (fun e => ha (List.mem_cons_of_mem _ e))
  rw [List.cons_append, index_cons, if_neg (fun e => ha (by rw [e]; simp)), ih, if_neg (by omega), List.length_cons]
  omega
theorem index_none {l : Bs} (h : (47 : UInt8) ∉ l) : Lib.index l [47] = -1 := by
 induction l with
 | nil => rfl
 | cons c l ih =>
  rw [index_cons, if_neg (fun e => h (by rw [e]; simp)), ih (fun e => h (List.mem_cons_of_mem _ e)), if_pos rfl]
theorem cut_at {a b : Bs} (ha : (47 : UInt8) ∉ a) : Lib.cut (a ++ 47 :: b) [47] = (a, b, true) := by
 unfold Lib.cut
 rw [index_at ha, if_pos (by omega), Int.toNat_natCast, List.take_left]
 congr 2
 rw [← List.drop_drop, List.drop_left]; rfl
theorem cut_none {l : Bs} (h : (47 : UInt8) ∉ l) : Lib.cut l [47] = (l, [], false) := by
 unfold Lib.cut
 rw [index_none h, if_neg (by omega)]
theorem cut_cases (l : Bs) : (∃ a b, l = a ++ 47 :: b ∧ (47 : UInt8) ∉ a ∧ Lib.cut l [47] = (a, b, true)) ∨ ((47 : UInt8) ∉ l ∧ Lib.cut l [47] = (l, [], false)) := by
 by_cases h : (47 : UInt8) ∈ l
 ·left
  have : ∀ l : Bs, (47 : UInt8) ∈ l → ∃ a b, l = a ++ 47 :: b ∧ (47 : UInt8) ∉ a := by
   intro l
   induction l with
   | nil => intro h; simp at h
   | cons c l ih =>
    intro h
    by_cases hc : c = 47
    ·exact ⟨[], l, by rw [hc]; rfl, by simp⟩
    ·obtain ⟨a, b, e, hn⟩ := ih (by rcases List.mem_cons.1 h with h | h; exact absurd h.symm hc; exact h)
     exact ⟨c :: a, b, by rw [e]; rfl, fun hm => by rcases List.mem_cons.1 hm with h | h; exact hc h.symm; exact hn h⟩
  obtain ⟨a, b, e, hn⟩ := this l h
  exact ⟨a, b, e, hn, by rw [e]; exact cut_at hn⟩
 ·exact Or.inr ⟨h, cut_none h⟩
theorem encode_mem {r : Int} {c : UInt8} (hc : c ∈ Lib.encodeRune r) (h : c.toNat < 128) : r = (c.toNat : Int) := by
 unfold Lib.encodeRune at hc
 obtain ⟨x, hx, rfl⟩ := List.mem_map.1 hc
 obtain ⟨h0, h1⟩ := Lib.encodeRuneZ_byte r x hx
 have hn : (x.toNat.toUInt8).toNat = x.toNat := byte_toNat rfl (by omega)
 rw [hn] at h ⊢
 unfold Lib.encodeRuneZ at hx
 split at hx
 ·simp at hx; omega
 ·split at hx
  ·simp at hx; omega
  ·split at hx
   ·simp at hx; omega
   ·split at hx
    ·simp at hx; omega
    ·simp at hx; omega
theorem make_mem {rs : List Int} {c : UInt8} (hc : c ∈ makeD rs) (h : c.toNat < 128) : (c.toNat : Int) ∈ rs := by
 unfold makeD at hc
 obtain ⟨r, hr, hm⟩ := List.mem_flatMap.1 hc
 rw [← encode_mem hm h]; exact hr
theorem no_slash {l : Bs} (h : rightN l = true) : (47 : UInt8) ∉ l := by
 intro hm
 obtain ⟨h1, h2, _⟩ := right_inv1 h
 have hm2 := (make_runes h1).1
 rw [← hm2] at hm
 have := h2 _ (make_mem hm (by decide))
 simp [letterZ] at this
def splitF (p : ByteArray) : ByteArray × ByteArray × Int :=
 if rightN (Lib.cut (bytes p) [47]).1 = true ∧ rightN (Lib.cut (bytes p) [47]).2.1 = true then (ofBytes (Lib.cut (bytes p) [47]).1, ofBytes (Lib.cut (bytes p) [47]).2.1, 0) else (⟨#[]⟩, ⟨#[]⟩, 3)
theorem right_val (a : ByteArray) (h : a.size ≤ 9223372036854775807) : name_Right.f a = some (rightN (bytes a)) := by unfold name_Right.f; rw [if_pos h]
theorem cut_len (l : Bs) : (Lib.cut l [47]).1.length ≤ l.length ∧ (Lib.cut l [47]).2.1.length ≤ l.length := by
 rcases cut_cases l with ⟨a, b, e, _, h⟩ | ⟨_, h⟩
 ·rw [h, e]; simp; omega
 ·rw [h]; simp
theorem split_val (p : ByteArray) (h : p.size < 4294967281) : name_Split.f p = some (splitF p) := by
 have hl := cut_len (bytes p)
 rw [bytes_length] at hl
 unfold name_Split.f splitF strings_Cut.f
 rw [if_pos h]
 simp only [Option.bind_some]
 rw [show bytes (⟨#[47]⟩ : ByteArray) = [47] from rfl, right_val _ (by rw [size_ofBytes]; omega), right_val _ (by rw [size_ofBytes]; omega), bytes_ofBytes, bytes_ofBytes]
 simp only [Option.bind_some]
 cases rightN (Lib.cut (bytes p) [47]).1 with
 | false => rw [if_neg (by simp), if_neg (by simp)]
 | true =>
  rw [if_pos rfl]
  cases rightN (Lib.cut (bytes p) [47]).2.1 with
  | false => rw [if_neg (by simp), if_neg (by simp)]
  | true => rw [if_pos rfl, if_pos ⟨rfl, rfl⟩]
theorem bytes_path (a b : ByteArray) : bytes ((a ++ ⟨#[47]⟩) ++ b) = bytes a ++ 47 :: bytes b := by
 rw [bytes_append, bytes_append, show bytes (⟨#[47]⟩ : ByteArray) = [47] from rfl, List.append_assoc]; rfl
theorem split_path {a b : ByteArray} (ha : rightN (bytes a) = true) (hb : rightN (bytes b) = true) : splitF ((a ++ ⟨#[47]⟩) ++ b) = (a, b, 0) := by
 unfold splitF
 rw [bytes_path, cut_at (no_slash ha), if_pos ⟨ha, hb⟩, ofBytes_bytes, ofBytes_bytes]
theorem split_ok {p a b : ByteArray} (h : splitF p = (a, b, 0)) : p = (a ++ ⟨#[47]⟩) ++ b ∧ rightN (bytes a) = true ∧ rightN (bytes b) = true := by
 unfold splitF at h
 split at h
 ·rename_i hr
  simp only [Prod.mk.injEq, and_true] at h
  obtain ⟨rfl, rfl⟩ := h
  rcases cut_cases (bytes p) with ⟨a, b, e, hn, hc⟩ | ⟨hn, hc⟩
  ·rw [hc] at hr ⊢
   refine ⟨bs_inj ?_, by rw [bytes_ofBytes]; exact hr.1, by rw [bytes_ofBytes]; exact hr.2⟩
   rw [bytes_path, bytes_ofBytes, bytes_ofBytes]; exact e
  ·rw [hc] at hr
   rw [show ((bytes p, ([] : Bs), false) : Bs × Bs × Bool).2.1 = [] from rfl, right_nil] at hr
   simp at hr
 ·simp at h
end Go.Proofs.YtlhoahbpklhpmaaGreatDoor.Ref
end
