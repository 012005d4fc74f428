/- Contracts and laws that the statement of LawWriterOpens,LawWriterReads,LawWriterRenews,LawWriterSteps leans on (packed from this claim's own texts): part 7. -/
import Derived.Test.YtphehoidkmficaaGreatDoorQW3
import Derived.Test.YtphehoidkmficaaGreatDoorQW6
section

namespace Go.Proofs.YtphehoidkmficaaGreatDoor.PA
open Go.RowKit Go.Proofs.YtphehoidkmficaaGreatDoorW.PrintWords Go.Proofs.YtphehoidkmficaaGreatDoorW.PrintLast Go.Proofs.YtphehoidkmficaaGreatDoorW.PrintMore
attribute [local go_sem] max2_int min2_int max_two min_two max_three min_three max_four min_four   -- for this text's walks alone
set_option linter.unusedVariables false
set_option linter.unusedSimpArgs false
mutual
def letterlockref3_many.j0 : Nat → Int → Bool → Option (Int)
 | 0, _, _ => none
 | k + 1, x3, x4 => if x4 = true then (some 0) else (if x3 = 104 then (letterlockref3_many.j1 k x3 (x3 == 104)) else (letterlockref3_many.j1 k x3 (x3 == 117)))
def letterlockref3_many.j1 : Nat → Int → Bool → Option (Int)
 | 0, _, _ => none
 | k + 1, x3, x7 => if x7 = true then (some 1) else (if x3 = 112 then (some 2) else (if x3 = 115 then (some 2) else (if x3 = 98 then (some 2) else (if x3 = 103 then (some 2) else (some (-1))))))
end
def letterlockref3_many.f (k : Nat) (a0 : Int) : Option (Int) := if a0 = 97 then (letterlockref3_many.j0 k a0 (a0 == 97)) else (letterlockref3_many.j0 k a0 (a0 == 116))
theorem letterlockref3_many.mono_l : ∀ k, (∀ y0 y1, LeO (letterlockref3_many.j0 k y0 y1) (letterlockref3_many.j0 (k + 1) y0 y1)) ∧ (∀ y0 y1, LeO (letterlockref3_many.j1 k y0 y1) (letterlockref3_many.j1 (k + 1) y0 y1))
 | 0 => ⟨fun _ _ r h => by simp [letterlockref3_many.j0] at h, fun _ _ r h => by simp [letterlockref3_many.j1] at h⟩
 | k + 1 => by
  obtain ⟨ih0, ih1⟩ := letterlockref3_many.mono_l k
  refine ⟨?_, ?_⟩
  ·intro y0 y1
   unfold letterlockref3_many.j0
   repeat' first
   | (with_reducible exact ih0 _ _)
   | (with_reducible exact ih1 _ _)
   | (with_reducible exact LeO.refl _)
   | (with_reducible exact LeO.none _)
   | (with_reducible refine LeO.ite ?_ ?_)
   | (with_reducible refine LeO.bind ?_ (fun _ => ?_))
   | exact ih0 _ _
   | exact ih1 _ _
   | exact LeO.none _
   | refine LeO.ite ?_ ?_
   | refine LeO.bind ?_ (fun _ => ?_)
  ·intro y0 y1
   unfold letterlockref3_many.j1
   repeat' first
   | (with_reducible exact ih0 _ _)
   | (with_reducible exact ih1 _ _)
   | (with_reducible exact LeO.refl _)
   | (with_reducible exact LeO.none _)
   | (with_reducible refine LeO.ite ?_ ?_)
   | (with_reducible refine LeO.bind ?_ (fun _ => ?_))
   | exact ih0 _ _
   | exact ih1 _ _
   | exact LeO.none _
   | refine LeO.ite ?_ ?_
   | refine LeO.bind ?_ (fun _ => ?_)
theorem letterlockref3_many.mono : ∀ a0 k, LeO (letterlockref3_many.f k a0) (letterlockref3_many.f (k + 1) a0) := by
 intro a0 k
 obtain ⟨ih0, ih1⟩ := letterlockref3_many.mono_l k
 unfold letterlockref3_many.f
 repeat' first
   | (with_reducible exact ih0 _ _)
   | (with_reducible exact ih1 _ _)
   | (with_reducible exact LeO.refl _)
   | (with_reducible exact LeO.none _)
   | (with_reducible refine LeO.ite ?_ ?_)
   | (with_reducible refine LeO.bind ?_ (fun _ => ?_))
   | exact ih0 _ _
   | exact ih1 _ _
   | exact LeO.none _
   | refine LeO.ite ?_ ?_
   | refine LeO.bind ?_ (fun _ => ?_)
set_option maxHeartbeats 8000000 in
set_option maxRecDepth 100000 in
theorem letterlockref3_many.calls (k : Nat) (a0 : Int) (r : Int) (w : World) (h : letterlockref3_many.f k a0 = some r) :
  Calls Tryz.prog 123 #[.int .u8 a0] w fun e w' => e = .returned (.int .i64 r) ∧ Drawn0 w w' := by
 have H : (if a0 = 97 then (letterlockref3_many.j0 k a0 (a0 == 97)) else (letterlockref3_many.j0 k a0 (a0 == 116))) = some r := h
 clear h
 have HC2 := Aside0.mk H
 clear H
 go_enter Tryz.func123, Tryz.ntmps123
 go_upto_if 4 with (fail)
 go_cut [4] (fun v4 wc => ∃ (kq : Nat) (x4_1 : Bool), v4 = .bool x4_1 ∧ Aside0 (letterlockref3_many.j0 kq a0 x4_1 = some r) ∧ Aside0 (kq ≤ k) ∧ Drawn0 w wc)
 case first =>
  have H := HC2.out
  clear HC2
  by_cases c3 : a0 = 97
  ·rw [if_pos c3] at H
   have c3b0 : (a0 == 97) = true := beq_iff_eq.mpr c3
   have c3b1 : (a0 != 97) = false := bne_eq_false_iff_eq.mpr c3
   clear c3
   (first | rw [c3b0] | (simp only [i64_w, i32_w]; rw [c3b0]) | skip)
   have H' := Aside0.mk H
   clear H
   go_wp2
   go_meet
   case rel => exact ⟨_, ((a0 == 97)), (by first | rfl | (simp; done) | (simp [*]; done)), H', ⟨by first | omega | exact Nat.le_refl _⟩, by repeat (first | exact Drawn0.refl _ | apply Drawn0.step)⟩
  ·rw [if_neg c3] at H
   have c3b0 : (a0 == 97) = false := beq_eq_false_iff_ne.mpr c3
   have c3b1 : (a0 != 97) = true := bne_iff_ne.mpr c3
   (first | rw [c3b0] | (simp only [i64_w, i32_w]; rw [c3b0]) | skip)
   have H' := Aside0.mk H
   clear H
   go_wp2
   go_meet
   case rel => exact ⟨_, ((a0 == 116)), (by first | rfl | (simp; done) | (simp [*]; done)), H', ⟨by first | omega | exact Nat.le_refl _⟩, by repeat (first | exact Drawn0.refl _ | apply Drawn0.step)⟩
 case rest =>
  clear HC2
  try clear c1
  try clear p2
  try clear c3
  try clear c3b0
  try clear c3b1
  obtain ⟨kq, x4_1, rfl, HA, HJ1, ⟨mc1, rfl⟩⟩ := hcut
  cases kq with
  | zero => exact absurd HA.out (by simp [letterlockref3_many.j0])
  | succ kj1 =>
   have H := HA.out
   clear HA
   simp only [letterlockref3_many.j0] at H
   by_cases c4 : x4_1 = true
   ·subst c4
    have H1 : (some 0) = some r := by rw [if_pos rfl] at H; exact H
    clear H
    have H := H1
    clear H1
    obtain rfl := Option.some.inj H
    go_wp2
    go_ret
    exact ⟨by first | rfl | (simp; done) | (simp [*]; done), by repeat (first | exact Drawn0.refl _ | apply Drawn0.step)⟩
   ·replace c4 := Bool.eq_false_iff.mpr c4
    subst c4
    have H1 : (if a0 = 104 then (letterlockref3_many.j1 kj1 a0 (a0 == 104)) else (letterlockref3_many.j1 kj1 a0 (a0 == 117))) = some r := by rw [if_neg (show ¬ (false = true) by decide)] at H; exact H
    clear H
    have H := H1
    clear H1
    have HC5 := Aside0.mk H
    clear H
    go_upto_if 7 with (fail)
    go_cut [7] (fun v7 wc => ∃ (kq : Nat) (x7_4 : Bool), v7 = .bool x7_4 ∧ Aside0 (letterlockref3_many.j1 kq a0 x7_4 = some r) ∧ Aside0 (kq ≤ kj1) ∧ Drawn0 w wc)
    case first =>
     have H := HC5.out
     clear HC5
     by_cases c6 : a0 = 104
     ·rw [if_pos c6] at H
      have c6b0 : (a0 == 104) = true := beq_iff_eq.mpr c6
      have c6b1 : (a0 != 104) = false := bne_eq_false_iff_eq.mpr c6
      clear c6
      (first | rw [c6b0] | (simp only [i64_w, i32_w]; rw [c6b0]) | skip)
      have H' := Aside0.mk H
      clear H
      go_wp2
      go_meet
      case rel => exact ⟨_, ((a0 == 104)), (by first | rfl | (simp; done) | (simp [*]; done)), H', ⟨by have := HJ1.out; first | omega | exact Nat.le_refl _⟩, by repeat (first | exact Drawn0.refl _ | apply Drawn0.step)⟩
     ·rw [if_neg c6] at H
      have c6b0 : (a0 == 104) = false := beq_eq_false_iff_ne.mpr c6
      have c6b1 : (a0 != 104) = true := bne_iff_ne.mpr c6
      (first | rw [c6b0] | (simp only [i64_w, i32_w]; rw [c6b0]) | skip)
      have H' := Aside0.mk H
      clear H
      go_wp2
      go_meet
      case rel => exact ⟨_, ((a0 == 117)), (by first | rfl | (simp; done) | (simp [*]; done)), H', ⟨by have := HJ1.out; first | omega | exact Nat.le_refl _⟩, by repeat (first | exact Drawn0.refl _ | apply Drawn0.step)⟩
    case rest =>
     clear HC5
     try clear c1
     try clear p2
     try clear c3
     try clear c3b0
     try clear c3b1
     try clear c4
     try clear c6
     try clear c6b0
     try clear c6b1
     try clear p2
     obtain ⟨kq, x7_4, rfl, HA, HJ4, ⟨mc4, rfl⟩⟩ := hcut
     cases kq with
     | zero => exact absurd HA.out (by simp [letterlockref3_many.j1])
     | succ kj4 =>
      have H := HA.out
      clear HA
      simp only [letterlockref3_many.j1] at H
      by_cases c7 : x7_4 = true
      ·subst c7
       have H1 : (some 1) = some r := by rw [if_pos rfl] at H; exact H
       clear H
       have H := H1
       clear H1
       obtain rfl := Option.some.inj H
       go_wp2
       go_ret
       exact ⟨by first | rfl | (simp; done) | (simp [*]; done), by repeat (first | exact Drawn0.refl _ | apply Drawn0.step)⟩
      ·replace c7 := Bool.eq_false_iff.mpr c7
       subst c7
       have H1 : (if a0 = 112 then (some 2) else (if a0 = 115 then (some 2) else (if a0 = 98 then (some 2) else (if a0 = 103 then (some 2) else (some (-1)))))) = some r := by rw [if_neg (show ¬ (false = true) by decide)] at H; exact H
       clear H
       have H := H1
       clear H1
       by_cases c8 : a0 = 112
       ·rw [if_pos c8] at H
        have c8b0 : (a0 == 112) = true := beq_iff_eq.mpr c8
        have c8b1 : (a0 != 112) = false := bne_eq_false_iff_eq.mpr c8
        clear c8
        obtain rfl := Option.some.inj H
        go_wp2
        go_ret
        exact ⟨by first | rfl | (simp; done) | (simp [*]; done), by repeat (first | exact Drawn0.refl _ | apply Drawn0.step)⟩
       ·rw [if_neg c8] at H
        have c8b0 : (a0 == 112) = false := beq_eq_false_iff_ne.mpr c8
        have c8b1 : (a0 != 112) = true := bne_iff_ne.mpr c8
        by_cases c9 : a0 = 115
        ·rw [if_pos c9] at H
         have c9b0 : (a0 == 115) = true := beq_iff_eq.mpr c9
         have c9b1 : (a0 != 115) = false := bne_eq_false_iff_eq.mpr c9
         clear c9
         obtain rfl := Option.some.inj H
         go_wp2
         go_ret
         exact ⟨by first | rfl | (simp; done) | (simp [*]; done), by repeat (first | exact Drawn0.refl _ | apply Drawn0.step)⟩
        ·rw [if_neg c9] at H
         have c9b0 : (a0 == 115) = false := beq_eq_false_iff_ne.mpr c9
         have c9b1 : (a0 != 115) = true := bne_iff_ne.mpr c9
         by_cases c10 : a0 = 98
         ·rw [if_pos c10] at H
          have c10b0 : (a0 == 98) = true := beq_iff_eq.mpr c10
          have c10b1 : (a0 != 98) = false := bne_eq_false_iff_eq.mpr c10
          clear c10
          obtain rfl := Option.some.inj H
          go_wp2
          go_ret
          exact ⟨by first | rfl | (simp; done) | (simp [*]; done), by repeat (first | exact Drawn0.refl _ | apply Drawn0.step)⟩
         ·rw [if_neg c10] at H
          have c10b0 : (a0 == 98) = false := beq_eq_false_iff_ne.mpr c10
          have c10b1 : (a0 != 98) = true := bne_iff_ne.mpr c10
          by_cases c11 : a0 = 103
          ·rw [if_pos c11] at H
           have c11b0 : (a0 == 103) = true := beq_iff_eq.mpr c11
           have c11b1 : (a0 != 103) = false := bne_eq_false_iff_eq.mpr c11
           clear c11
           obtain rfl := Option.some.inj H
           go_wp2
           go_ret
           exact ⟨by first | rfl | (simp; done) | (simp [*]; done), by repeat (first | exact Drawn0.refl _ | apply Drawn0.step)⟩
          ·rw [if_neg c11] at H
           have c11b0 : (a0 == 103) = false := beq_eq_false_iff_ne.mpr c11
           have c11b1 : (a0 != 103) = true := bne_iff_ne.mpr c11
           obtain rfl := Option.some.inj H
           go_wp2
           go_ret
           exact ⟨by first | rfl | (simp; done) | (simp [*]; done), by repeat (first | exact Drawn0.refl _ | apply Drawn0.step)⟩
end Go.Proofs.YtphehoidkmficaaGreatDoor.PA
end
section

namespace Go.Proofs.YtphehoidkmficaaGreatDoor.PA
open Go.RowKit Go.Proofs.YtphehoidkmficaaGreatDoorW.PrintWords Go.Proofs.YtphehoidkmficaaGreatDoorW.PrintLast Go.Proofs.YtphehoidkmficaaGreatDoorW.PrintMore
attribute [local go_sem] max2_int min2_int max_two min_two max_three min_three max_four min_four   -- for this text's walks alone
set_option linter.unusedVariables false
set_option linter.unusedSimpArgs false
mutual
def letterlockref3_size.j0 : Nat → ByteArray → Int → Bool → Option (Int)
 | 0, _, _, _ => none
 | k + 1, x0, x1, x22 => if x22 = true then (some 0) else (if 0 < (x0.size : Int) then (if (bt x0 0) = 97 then (letterlockref3_size.j1 k x0 x1 true) else (letterlockref3_size.j1 k x0 x1 ((bt x0 0) == 116))) else (none))
def letterlockref3_size.j1 : Nat → ByteArray → Int → Bool → Option (Int)
 | 0, _, _, _ => none
 | k + 1, x0, x1, x30 => if x30 = true then (if 1 ≤ (x0.size : Int) then ((letterlockref2_Take.f k (x0.extract 1 x0.size)).bind fun bt209 => (if 0 < (x0.size : Int) then (if (bt x0 0) = 116 then ((letterlockref2_TakeText.f k (x0.extract 1 x0.size) 4000).bind fun bt212 => (if bt212.2.2 = 0 then (some (wrap64 ((x0.size : Int) - (bt212.2.1.size : Int)))) else (some 0))) else (if bt209.2.2 = 0 then (some (wrap64 ((x0.size : Int) - (bt209.2.1.size : Int)))) else (some 0))) else (none))) else (none)) else (letterlockref3_size.l0 k x0 x1 1 0)
def letterlockref3_size.l0 : Nat → ByteArray → Int → Int → Int → Option (Int)
 | 0, _, _, _, _ => none
 | k + 1, x0, x1, x8, x9 => if 0 < (x0.size : Int) then ((letterlockref3_many.f k (bt x0 0)).bind fun t215 => (if x9 < t215 then (if (bt x0 0) = 98 then (if x9 = 0 then (if x8 ≥ (x0.size : Int) then (letterlockref3_size.j3 k x0 x1 x8 x9 true) else (if 0 ≤ x8 then (if x8 < (x0.size : Int) then (letterlockref3_size.j3 k x0 x1 x8 x9 ((bt x0 x8) != 117)) else (none)) else (none))) else (letterlockref3_size.j3 k x0 x1 x8 x9 false)) else (letterlockref3_size.j3 k x0 x1 x8 x9 false)) else (some x8))) else (none)
def letterlockref3_size.j3 : Nat → ByteArray → Int → Int → Int → Bool → Option (Int)
 | 0, _, _, _, _, _ => none
 | k + 1, x0, x1, x8, x9, x80 => if x80 = true then (some 0) else (if 0 ≤ x8 then (if x8 ≤ (x0.size : Int) then ((letterlockref3_size.f k (x0.extract (x8 : Int).toNat x0.size) (wrap64 (x1 - 1))).bind fun t216 => (if t216 = 0 then (some 0) else (letterlockref3_size.l0 k x0 x1 (wrap64 (x8 + t216)) (wrap64 (x9 + 1))))) else (none)) else (none))
def letterlockref3_size.f : Nat → ByteArray → Int → Option (Int)
 | 0, _, _ => none
 | k + 1, a0, a1 => if a0.toList = ([] : List UInt8) then (letterlockref3_size.j0 k a0 a1 true) else (if a1 = 0 then (letterlockref3_size.j0 k a0 a1 true) else (if 0 < (a0.size : Int) then ((letterlockref3_many.f k (bt a0 0)).bind fun t208 => (letterlockref3_size.j0 k a0 a1 (decide (t208 < 0)))) else (none)))
end
set_option maxHeartbeats 8000000 in
set_option maxRecDepth 100000 in
theorem letterlockref3_size.calls (k : Nat) : ∀ (a0 : ByteArray) (a1 : Int) (r : Int) (w : World) (h : letterlockref3_size.f k a0 a1 = some r),
  Calls Tryz.prog 103 #[.string a0, .int .i64 a1] w fun e w' => e = .returned (.int .i64 r) ∧ Below w.heap.size w w' := by
 induction k using Nat.strongRecOn with
 | _ k ih =>
 intro a0 a1 r w h
 cases k with
 | zero => exact absurd h (by simp [letterlockref3_size.f])
 | succ k =>
 simp only [letterlockref3_size.f] at h
 have HB := Aside0.mk (Below.refl w.heap.size w)
 have H : (if a0.toList = ([] : List UInt8) then (letterlockref3_size.j0 k a0 a1 true) else (if a1 = 0 then (letterlockref3_size.j0 k a0 a1 true) else (if 0 < (a0.size : Int) then ((letterlockref3_many.f k (bt a0 0)).bind fun t208 => (letterlockref3_size.j0 k a0 a1 (decide (t208 < 0)))) else (none)))) = some r := h
 clear h
 have HC3 := Aside0.mk H
 clear H
 go_enter Tryz.func103, Tryz.ntmps103
 go_upto_region 1 with (fail)
 go_cut [22] (fun v22 wc => ∃ (kq : Nat) (x22_2 : Bool), v22 = .bool x22_2 ∧ Aside0 (letterlockref3_size.j0 kq a0 a1 x22_2 = some r) ∧ Aside0 (kq ≤ k) ∧ Aside0 (Below w.heap.size w wc))
 case first =>
  have H := HC3.out
  clear HC3
  by_cases c4 : a0.toList = ([] : List UInt8)
  ·rw [if_pos c4] at H
   have c4b0 : (a0.toList == ([] : List UInt8)) = true := beq_iff_eq.mpr c4
   have c4b1 : (a0.toList != ([] : List UInt8)) = false := bne_eq_false_iff_eq.mpr c4
   clear c4
   (first | rw [c4b0] | (simp only [i64_w, i32_w]; rw [c4b0]) | skip)
   have H' := Aside0.mk H
   clear H
   go_wp2
   go_meet
   case rel => exact ⟨_, (true), (by first | rfl | (simp; done) | (simp [*]; done)), H', ⟨by first | omega | exact Nat.le_refl _⟩, ⟨by repeat (first | (with_reducible first | exact HB.out | apply below_alloc | apply pw_below_drewN | apply below_drew1) | exact HB.out)⟩⟩
  ·rw [if_neg c4] at H
   have c4b0 : (a0.toList == ([] : List UInt8)) = false := beq_eq_false_iff_ne.mpr c4
   have c4b1 : (a0.toList != ([] : List UInt8)) = true := bne_iff_ne.mpr c4
   (first | rw [c4b0] | (simp only [i64_w, i32_w]; rw [c4b0]) | skip)
   by_cases c5 : a1 = 0
   ·rw [if_pos c5] at H
    have c5b0 : (a1 == 0) = true := beq_iff_eq.mpr c5
    have c5b1 : (a1 != 0) = false := bne_eq_false_iff_eq.mpr c5
    clear c5
    have H' := Aside0.mk H
    clear H
    go_wp2
    go_meet
    case rel => exact ⟨_, (true), (by first | rfl | (simp; done) | (simp [*]; done)), H', ⟨by first | omega | exact Nat.le_refl _⟩, ⟨by repeat (first | (with_reducible first | exact HB.out | apply below_alloc | apply pw_below_drewN | apply below_drew1) | exact HB.out)⟩⟩
   ·rw [if_neg c5] at H
    have c5b0 : (a1 == 0) = false := beq_eq_false_iff_ne.mpr c5
    have c5b1 : (a1 != 0) = true := bne_iff_ne.mpr c5
    by_cases c6 : 0 < (a0.size : Int)
    ·rw [if_pos c6] at H
     have c6b0 : decide (0 < (a0.size : Int)) = true := decide_eq_true c6
     have c6b1 : decide (0 < a0.size) = true := decide_eq_true (by omega)
     clear c6
     replace H := Option.bind_eq_some_iff.mp H
     obtain ⟨t208, A80, H⟩ := H
     replace H : (letterlockref3_size.j0 k a0 a1 (decide (t208 < 0))) = some r := H
     have A8 := Aside0.mk A80
     clear A80
     have H' := Aside0.mk H
     clear H
     have p7 : 0 ≤ (0 : Int) := (by omega)
     have q7 : 0 < a0.size := (by have : (0 : Int) < (a0.size : Int) := of_decide_eq_true (by first | (with_reducible assumption) | assumption); omega)
     have hx7 : ∀ h : 0 < a0.size, ((a0[0]'h).toNat : Int) = bt a0 0 := bt_at a0 0
     clear p7
     have qi7 : (0 < (a0.size : Int)) = True := eq_true (of_decide_eq_true (by first | (with_reducible assumption) | assumption))
     replace q7 := eq_true q7
     go_wp2_with (first | (go_at_call 123; (with_reducible refine (letterlockref3_many.calls k (bt a0 0) t208 _ A8.out).mono ?_); rintro e w' ⟨rfl, ⟨nd, rfl⟩⟩))
     go_meet
     case rel => exact ⟨_, (decide (t208 < 0)), (by first | rfl | (simp; done) | (simp [*]; done)), H', ⟨by first | omega | exact Nat.le_refl _⟩, ⟨by repeat (first | (with_reducible first | exact HB.out | apply below_alloc | apply pw_below_drewN | apply below_drew1) | exact HB.out)⟩⟩
    ·rw [if_neg c6] at H
     exact absurd H (by simp)
 case rest =>
  clear HC3
  try clear c1
  try clear p2
  try clear c4
  try clear c4b0
  try clear c4b1
  try clear c5
  try clear c5b0
  try clear c5b1
  try clear c6
  try clear c6b0
  try clear c6b1
  try clear p7
  try clear q7
  try clear hx7
  try clear qi7
  try clear p7
  try clear q7
  obtain ⟨kq, x22_2, rfl, HA, HJ2, HB⟩ := hcut
  cases kq with
  | zero => exact absurd HA.out (by simp [letterlockref3_size.j0])
  | succ kj2 =>
   have H := HA.out
   clear HA
   simp only [letterlockref3_size.j0] at H
   by_cases c9 : x22_2 = true
   ·subst c9
    have H1 : (some 0) = some r := by rw [if_pos rfl] at H; exact H
    clear H
    have H := H1
    clear H1
    obtain rfl := Option.some.inj H
    go_wp2
    go_ret
    exact ⟨by first | rfl | (simp [errW_none, errW_some] <;> rfl) | (simp [*, errW_none, errW_some] <;> rfl), by repeat (first | (with_reducible first | exact HB.out | apply below_alloc | apply pw_below_drewN | apply below_drew1) | exact HB.out)⟩
   ·replace c9 := Bool.eq_false_iff.mpr c9
    subst c9
    have H1 : (if 0 < (a0.size : Int) then (if (bt a0 0) = 97 then (letterlockref3_size.j1 kj2 a0 a1 true) else (letterlockref3_size.j1 kj2 a0 a1 ((bt a0 0) == 116))) else (none)) = some r := by rw [if_neg (show ¬ (false = true) by decide)] at H; exact H
    clear H
    have H := H1
    clear H1
    have HC10 := Aside0.mk H
    clear H
    go_upto_region 3 with (fail)
    go_cut [30] (fun v30 wc => ∃ (kq : Nat) (x30_9 : Bool), v30 = .bool x30_9 ∧ Aside0 (letterlockref3_size.j1 kq a0 a1 x30_9 = some r) ∧ Aside0 (kq ≤ kj2) ∧ Aside0 (Below w.heap.size w wc))
    case first =>
     have H := HC10.out
     clear HC10
     by_cases c11 : 0 < (a0.size : Int)
     ·rw [if_pos c11] at H
      have c11b0 : decide (0 < (a0.size : Int)) = true := decide_eq_true c11
      have c11b1 : decide (0 < a0.size) = true := decide_eq_true (by omega)
      clear c11
      (first | rw [c11b0] | (simp only [i64_w, i32_w]; rw [c11b0]) | skip)
      by_cases c13 : (bt a0 0) = 97
      ·rw [if_pos c13] at H
       have c13b0 : ((bt a0 0) == 97) = true := beq_iff_eq.mpr c13
       have c13b1 : ((bt a0 0) != 97) = false := bne_eq_false_iff_eq.mpr c13
       clear c13
       have H' := Aside0.mk H
       clear H
       have p12 : 0 ≤ (0 : Int) := (by omega)
       have q12 : 0 < a0.size := (by have : (0 : Int) < (a0.size : Int) := of_decide_eq_true (by first | (with_reducible assumption) | assumption); omega)
       have hx12 : ∀ h : 0 < a0.size, ((a0[0]'h).toNat : Int) = bt a0 0 := bt_at a0 0
       clear p12
       have qi12 : (0 < (a0.size : Int)) = True := eq_true (of_decide_eq_true (by first | (with_reducible assumption) | assumption))
       replace q12 := eq_true q12
       go_wp2
       go_meet
       case rel => exact ⟨_, (true), (by first | rfl | (simp; done) | (simp [*]; done)), H', ⟨by have := HJ2.out; first | omega | exact Nat.le_refl _⟩, ⟨by repeat (first | (with_reducible first | exact HB.out | apply below_alloc | apply pw_below_drewN | apply below_drew1) | exact HB.out)⟩⟩
      ·rw [if_neg c13] at H
       have c13b0 : ((bt a0 0) == 97) = false := beq_eq_false_iff_ne.mpr c13
       have c13b1 : ((bt a0 0) != 97) = true := bne_iff_ne.mpr c13
       have H' := Aside0.mk H
       clear H
       have p12 : 0 ≤ (0 : Int) := (by omega)
       have q12 : 0 < a0.size := (by have : (0 : Int) < (a0.size : Int) := of_decide_eq_true (by first | (with_reducible assumption) | assumption); omega)
       have hx12 : ∀ h : 0 < a0.size, ((a0[0]'h).toNat : Int) = bt a0 0 := bt_at a0 0
       clear p12
       have qi12 : (0 < (a0.size : Int)) = True := eq_true (of_decide_eq_true (by first | (with_reducible assumption) | assumption))
       replace q12 := eq_true q12
       have p14 : 0 ≤ (0 : Int) := (by omega)
       have q14 : 0 < a0.size := (by have : (0 : Int) < (a0.size : Int) := of_decide_eq_true (by first | (with_reducible assumption) | assumption); omega)
       have hx14 : ∀ h : 0 < a0.size, ((a0[0]'h).toNat : Int) = bt a0 0 := bt_at a0 0
       clear p14
       have qi14 : (0 < (a0.size : Int)) = True := eq_true (of_decide_eq_true (by first | (with_reducible assumption) | assumption))
       replace q14 := eq_true q14
       go_wp2
       go_meet
       case rel => exact ⟨_, (((bt a0 0) == 116)), (by first | rfl | (simp; done) | (simp [*]; done)), H', ⟨by have := HJ2.out; first | omega | exact Nat.le_refl _⟩, ⟨by repeat (first | (with_reducible first | exact HB.out | apply below_alloc | apply pw_below_drewN | apply below_drew1) | exact HB.out)⟩⟩
     ·rw [if_neg c11] at H
      exact absurd H (by simp)
    case rest =>
     clear HC10
     try clear c1
     try clear p1
     try clear q1
     try clear hx1
     try clear qi1
     try clear p2
     try clear c4
     try clear c4b0
     try clear c4b1
     try clear c5
     try clear c5b0
     try clear c5b1
     try clear c6
     try clear c6b0
     try clear c6b1
     try clear p7
     try clear q7
     try clear hx7
     try clear qi7
     try clear c9
     try clear c10
     try clear c11
     try clear c11b0
     try clear c11b1
     try clear p12
     try clear q12
     try clear hx12
     try clear qi12
     try clear c13
     try clear c13b0
     try clear c13b1
     try clear p14
     try clear q14
     try clear hx14
     try clear qi14
     try clear p12
     try clear p14
     try clear p2
     try clear p7
     try clear q12
     try clear q14
     try clear q7
     obtain ⟨kq, x30_9, rfl, HA, HJ9, HB⟩ := hcut
     cases kq with
     | zero => exact absurd HA.out (by simp [letterlockref3_size.j1])
     | succ kj9 =>
      have H := HA.out
      clear HA
      simp only [letterlockref3_size.j1] at H
      by_cases c15 : x30_9 = true
      ·subst c15
       have H1 : (if 1 ≤ (a0.size : Int) then ((letterlockref2_Take.f kj9 (a0.extract 1 a0.size)).bind fun bt209 => (if 0 < (a0.size : Int) then (if (bt a0 0) = 116 then ((letterlockref2_TakeText.f kj9 (a0.extract 1 a0.size) 4000).bind fun bt212 => (if bt212.2.2 = 0 then (some (wrap64 ((a0.size : Int) - (bt212.2.1.size : Int)))) else (some 0))) else (if bt209.2.2 = 0 then (some (wrap64 ((a0.size : Int) - (bt209.2.1.size : Int)))) else (some 0))) else (none))) else (none)) = some r := by rw [if_pos rfl] at H; exact H
       clear H
       have H := H1
       clear H1
       by_cases c16 : 1 ≤ (a0.size : Int)
       ·rw [if_pos c16] at H
        have c16b0 := eq_true c16
        have c16b1 : decide (1 ≤ (a0.size : Int)) = true := decide_eq_true c16
        clear c16
        replace H := Option.bind_eq_some_iff.mp H
        obtain ⟨⟨t209, t210, t211⟩, A170, H⟩ := H
        replace H : (if 0 < (a0.size : Int) then (if (bt a0 0) = 116 then ((letterlockref2_TakeText.f kj9 (a0.extract 1 a0.size) 4000).bind fun bt212 => (if bt212.2.2 = 0 then (some (wrap64 ((a0.size : Int) - (bt212.2.1.size : Int)))) else (some 0))) else (if t211 = 0 then (some (wrap64 ((a0.size : Int) - (t210.size : Int)))) else (some 0))) else (none)) = some r := H
        have A17 := Aside0.mk A170
        clear A170
        by_cases c18 : 0 < (a0.size : Int)
        ·rw [if_pos c18] at H
         have c18b0 : decide (0 < (a0.size : Int)) = true := decide_eq_true c18
         have c18b1 : decide (0 < a0.size) = true := decide_eq_true (by omega)
         clear c18
         by_cases c20 : (bt a0 0) = 116
         ·rw [if_pos c20] at H
          have c20b0 : ((bt a0 0) == 116) = true := beq_iff_eq.mpr c20
          have c20b1 : ((bt a0 0) != 116) = false := bne_eq_false_iff_eq.mpr c20
          clear c20
          have c21b0 := eq_true (of_decide_eq_true (by first | (with_reducible assumption) | assumption) : 1 ≤ (a0.size : Int))
          replace H := Option.bind_eq_some_iff.mp H
          obtain ⟨⟨t212, t213, t214⟩, A220, H⟩ := H
          replace H : (if t214 = 0 then (some (wrap64 ((a0.size : Int) - (t213.size : Int)))) else (some 0)) = some r := H
          have A22 := Aside0.mk A220
          clear A220
          by_cases c23 : t214 = 0
          ·rw [if_pos c23] at H
           have c23b0 : (t214 == 0) = true := beq_iff_eq.mpr c23
           have c23b1 : (t214 != 0) = false := bne_eq_false_iff_eq.mpr c23
           clear c23
           obtain rfl := Option.some.inj H
           go_wp2_with (first | ((with_reducible refine gate_callee (f := 43) rfl ?_); refine goesL_ (some 34) rfl rfl Tryz.func43 (by kernel_rfl) rfl #[.string (a0.extract 1 a0.size)] rfl (by (try simp only [List.map_toArray, List.map_cons, List.map_nil]); first | done | rfl | (simp only [List.length_drop, List.length_take]; rfl)) ?_; (with_reducible refine (letterlockref2_Take.calls kj9 (a0.extract 1 a0.size) t209 t210 t211 _ A17.out).mono ?_); rintro e w' ⟨rfl, ⟨nd, rfl⟩⟩; refine ⟨_, rfl, ?_⟩; have p19 : 0 ≤ (0 : Int) := (by omega); have q19 : 0 < a0.size := (by have : (0 : Int) < (a0.size : Int) := of_decide_eq_true (by first | (with_reducible assumption) | assumption); omega); have hx19 : ∀ h : 0 < a0.size, ((a0[0]'h).toNat : Int) = bt a0 0 := bt_at a0 0; clear p19; have qi19 : (0 < (a0.size : Int)) = True := eq_true (of_decide_eq_true (by first | (with_reducible assumption) | assumption)); replace q19 := eq_true q19) | ((with_reducible refine gate_callee (f := 94) rfl ?_); refine goesL_ (some 44) rfl rfl Tryz.func94 (by kernel_rfl) rfl #[.string (a0.extract 1 a0.size), .int .i64 4000] rfl (by (try simp only [List.map_toArray, List.map_cons, List.map_nil]); first | done | rfl | (simp only [List.length_drop, List.length_take]; rfl)) ?_; (with_reducible refine (letterlockref2_TakeText.calls kj9 (a0.extract 1 a0.size) 4000 t212 t213 t214 _ A22.out).mono ?_); rintro e w24 ⟨rfl, hb⟩; refine ⟨_, rfl, ?_⟩; have n0_ := Aside0.mk (below_step (by repeat (first | (with_reducible first | exact HB.out | apply below_alloc | apply pw_below_drewN | apply below_drew1) | exact HB.out)) hb); clear HB; have HB := n0_; clear n0_; (try clear hb); (try clear hb2); (try clear hk); (try clear hi)))
           go_ret
           exact ⟨by first | rfl | (simp [errW_none, errW_some] <;> rfl) | (simp [*, errW_none, errW_some] <;> rfl), by repeat (first | (with_reducible first | exact HB.out | apply below_alloc | apply pw_below_drewN | apply below_drew1) | exact HB.out)⟩
          ·rw [if_neg c23] at H
           have c23b0 : (t214 == 0) = false := beq_eq_false_iff_ne.mpr c23
           have c23b1 : (t214 != 0) = true := bne_iff_ne.mpr c23
           obtain rfl := Option.some.inj H
           go_wp2_with (first | ((with_reducible refine gate_callee (f := 43) rfl ?_); refine goesL_ (some 34) rfl rfl Tryz.func43 (by kernel_rfl) rfl #[.string (a0.extract 1 a0.size)] rfl (by (try simp only [List.map_toArray, List.map_cons, List.map_nil]); first | done | rfl | (simp only [List.length_drop, List.length_take]; rfl)) ?_; (with_reducible refine (letterlockref2_Take.calls kj9 (a0.extract 1 a0.size) t209 t210 t211 _ A17.out).mono ?_); rintro e w' ⟨rfl, ⟨nd, rfl⟩⟩; refine ⟨_, rfl, ?_⟩; have p19 : 0 ≤ (0 : Int) := (by omega); have q19 : 0 < a0.size := (by have : (0 : Int) < (a0.size : Int) := of_decide_eq_true (by first | (with_reducible assumption) | assumption); omega); have hx19 : ∀ h : 0 < a0.size, ((a0[0]'h).toNat : Int) = bt a0 0 := bt_at a0 0; clear p19; have qi19 : (0 < (a0.size : Int)) = True := eq_true (of_decide_eq_true (by first | (with_reducible assumption) | assumption)); replace q19 := eq_true q19) | ((with_reducible refine gate_callee (f := 94) rfl ?_); refine goesL_ (some 44) rfl rfl Tryz.func94 (by kernel_rfl) rfl #[.string (a0.extract 1 a0.size), .int .i64 4000] rfl (by (try simp only [List.map_toArray, List.map_cons, List.map_nil]); first | done | rfl | (simp only [List.length_drop, List.length_take]; rfl)) ?_; (with_reducible refine (letterlockref2_TakeText.calls kj9 (a0.extract 1 a0.size) 4000 t212 t213 t214 _ A22.out).mono ?_); rintro e w25 ⟨rfl, hb⟩; refine ⟨_, rfl, ?_⟩; have n0_ := Aside0.mk (below_step (by repeat (first | (with_reducible first | exact HB.out | apply below_alloc | apply pw_below_drewN | apply below_drew1) | exact HB.out)) hb); clear HB; have HB := n0_; clear n0_; (try clear hb); (try clear hb2); (try clear hk); (try clear hi)))
           go_ret
           exact ⟨by first | rfl | (simp [errW_none, errW_some] <;> rfl) | (simp [*, errW_none, errW_some] <;> rfl), by repeat (first | (with_reducible first | exact HB.out | apply below_alloc | apply pw_below_drewN | apply below_drew1) | exact HB.out)⟩
         ·rw [if_neg c20] at H
          have c20b0 : ((bt a0 0) == 116) = false := beq_eq_false_iff_ne.mpr c20
          have c20b1 : ((bt a0 0) != 116) = true := bne_iff_ne.mpr c20
          by_cases c26 : t211 = 0
          ·rw [if_pos c26] at H
           have c26b0 : (t211 == 0) = true := beq_iff_eq.mpr c26
           have c26b1 : (t211 != 0) = false := bne_eq_false_iff_eq.mpr c26
           clear c26
           obtain rfl := Option.some.inj H
           go_wp2_with (first | ((with_reducible refine gate_callee (f := 43) rfl ?_); refine goesL_ (some 34) rfl rfl Tryz.func43 (by kernel_rfl) rfl #[.string (a0.extract 1 a0.size)] rfl (by (try simp only [List.map_toArray, List.map_cons, List.map_nil]); first | done | rfl | (simp only [List.length_drop, List.length_take]; rfl)) ?_; (with_reducible refine (letterlockref2_Take.calls kj9 (a0.extract 1 a0.size) t209 t210 t211 _ A17.out).mono ?_); rintro e w' ⟨rfl, ⟨nd, rfl⟩⟩; refine ⟨_, rfl, ?_⟩; have p19 : 0 ≤ (0 : Int) := (by omega); have q19 : 0 < a0.size := (by have : (0 : Int) < (a0.size : Int) := of_decide_eq_true (by first | (with_reducible assumption) | assumption); omega); have hx19 : ∀ h : 0 < a0.size, ((a0[0]'h).toNat : Int) = bt a0 0 := bt_at a0 0; clear p19; have qi19 : (0 < (a0.size : Int)) = True := eq_true (of_decide_eq_true (by first | (with_reducible assumption) | assumption)); replace q19 := eq_true q19))
           go_ret
           exact ⟨by first | rfl | (simp [errW_none, errW_some] <;> rfl) | (simp [*, errW_none, errW_some] <;> rfl), by repeat (first | (with_reducible first | exact HB.out | apply below_alloc | apply pw_below_drewN | apply below_drew1) | exact HB.out)⟩
          ·rw [if_neg c26] at H
           have c26b0 : (t211 == 0) = false := beq_eq_false_iff_ne.mpr c26
           have c26b1 : (t211 != 0) = true := bne_iff_ne.mpr c26
           obtain rfl := Option.some.inj H
           go_wp2_with (first | ((with_reducible refine gate_callee (f := 43) rfl ?_); refine goesL_ (some 34) rfl rfl Tryz.func43 (by kernel_rfl) rfl #[.string (a0.extract 1 a0.size)] rfl (by (try simp only [List.map_toArray, List.map_cons, List.map_nil]); first | done | rfl | (simp only [List.length_drop, List.length_take]; rfl)) ?_; (with_reducible refine (letterlockref2_Take.calls kj9 (a0.extract 1 a0.size) t209 t210 t211 _ A17.out).mono ?_); rintro e w' ⟨rfl, ⟨nd, rfl⟩⟩; refine ⟨_, rfl, ?_⟩; have p19 : 0 ≤ (0 : Int) := (by omega); have q19 : 0 < a0.size := (by have : (0 : Int) < (a0.size : Int) := of_decide_eq_true (by first | (with_reducible assumption) | assumption); omega); have hx19 : ∀ h : 0 < a0.size, ((a0[0]'h).toNat : Int) = bt a0 0 := bt_at a0 0; clear p19; have qi19 : (0 < (a0.size : Int)) = True := eq_true (of_decide_eq_true (by first | (with_reducible assumption) | assumption)); replace q19 := eq_true q19))
           go_ret
           exact ⟨by first | rfl | (simp [errW_none, errW_some] <;> rfl) | (simp [*, errW_none, errW_some] <;> rfl), by repeat (first | (with_reducible first | exact HB.out | apply below_alloc | apply pw_below_drewN | apply below_drew1) | exact HB.out)⟩
        ·rw [if_neg c18] at H
         exact absurd H (by simp)
       ·rw [if_neg c16] at H
        exact absurd H (by simp)
      ·replace c15 := Bool.eq_false_iff.mpr c15
       subst c15
       have H1 : (letterlockref3_size.l0 kj9 a0 a1 1 0) = some r := by rw [if_neg (show ¬ (false = true) by decide)] at H; exact H
       clear H
       have H := H1
       clear H1
       have H' := Aside0.mk H
       clear H
       go_wp2
       go_loopg [8, 9] kj9 (fun kq v8 v9 w' => ∃ (x8_3 : Int) (x9_3 : Int), v8 = .int .i64 x8_3 ∧ v9 = .int .i64 x9_3 ∧ Aside0 (letterlockref3_size.l0 kq a0 a1 x8_3 x9_3 = some r) ∧ Aside0 (kq ≤ kj9) ∧ Aside0 (Below w.heap.size w w'))
       case atStart => exact ⟨(1), (0), (by first | rfl | (simp; done) | (simp [*]; done)), (by first | rfl | (simp; done) | (simp [*]; done)), H', ⟨Nat.le_refl _⟩, ⟨by repeat (first | (with_reducible first | exact HB.out | apply below_alloc | apply pw_below_drewN | apply below_drew1) | exact HB.out)⟩⟩
       case round =>
        clear H'
        try clear c1
        try clear p1
        try clear q1
        try clear hx1
        try clear qi1
        try clear c2
        try clear p2
        try clear c4
        try clear c4b0
        try clear c4b1
        try clear c5
        try clear c5b0
        try clear c5b1
        try clear c6
        try clear c6b0
        try clear c6b1
        try clear p6
        try clear p7
        try clear q7
        try clear hx7
        try clear qi7
        try clear c9
        try clear c10
        try clear c11
        try clear c11b0
        try clear c11b1
        try clear p12
        try clear q12
        try clear hx12
        try clear qi12
        try clear c13
        try clear c13b0
        try clear c13b1
        try clear p14
        try clear q14
        try clear hx14
        try clear qi14
        try clear c15
        try clear c16
        try clear c16b0
        try clear c16b1
        try clear c18
        try clear c18b0
        try clear c18b1
        try clear p19
        try clear q19
        try clear hx19
        try clear qi19
        try clear c20
        try clear c20b0
        try clear c20b1
        try clear c21
        try clear c21b0
        try clear c23
        try clear c23b0
        try clear c23b1
        try clear c26
        try clear c26b0
        try clear c26b1
        try clear p1
        try clear p12
        try clear p14
        try clear p19
        try clear p2
        try clear p7
        try clear q1
        try clear q12
        try clear q14
        try clear q19
        try clear q7
        obtain ⟨x8_3, x9_3, rfl, rfl, HA, HK3, HB⟩ := hrel
        cases gk with
        | zero => exact absurd HA.out (by simp [letterlockref3_size.l0])
        | succ k3 =>
         have H := HA.out
         clear HA
         simp only [letterlockref3_size.l0] at H
         by_cases c27 : 0 < (a0.size : Int)
         ·rw [if_pos c27] at H
          have c27b0 : decide (0 < (a0.size : Int)) = true := decide_eq_true c27
          have c27b1 : decide (0 < a0.size) = true := decide_eq_true (by omega)
          clear c27
          replace H := Option.bind_eq_some_iff.mp H
          obtain ⟨t215, A290, H⟩ := H
          replace H : (if x9_3 < t215 then (if (bt a0 0) = 98 then (if x9_3 = 0 then (if x8_3 ≥ (a0.size : Int) then (letterlockref3_size.j3 k3 a0 a1 x8_3 x9_3 true) else (if 0 ≤ x8_3 then (if x8_3 < (a0.size : Int) then (letterlockref3_size.j3 k3 a0 a1 x8_3 x9_3 ((bt a0 x8_3) != 117)) else (none)) else (none))) else (letterlockref3_size.j3 k3 a0 a1 x8_3 x9_3 false)) else (letterlockref3_size.j3 k3 a0 a1 x8_3 x9_3 false)) else (some x8_3)) = some r := H
          have A29 := Aside0.mk A290
          clear A290
          by_cases c30 : x9_3 < t215
          ·rw [if_pos c30] at H
           have c30b0 : decide (x9_3 < t215) = true := decide_eq_true c30
           clear c30
           have HC31 := Aside0.mk H
           clear H
           have p28 : 0 ≤ (0 : Int) := (by omega)
           have q28 : 0 < a0.size := (by have : (0 : Int) < (a0.size : Int) := of_decide_eq_true (by first | (with_reducible assumption) | assumption); omega)
           have hx28 : ∀ h : 0 < a0.size, ((a0[0]'h).toNat : Int) = bt a0 0 := bt_at a0 0
           clear p28
           have qi28 : (0 < (a0.size : Int)) = True := eq_true (of_decide_eq_true (by first | (with_reducible assumption) | assumption))
           replace q28 := eq_true q28
           go_upto_region 14 with (first | ((with_reducible refine gate_callee (f := 123) rfl ?_); refine goesL_ (some 58) rfl rfl Tryz.func123 (by kernel_rfl) rfl #[.int .u8 (bt a0 0)] rfl (by (try simp only [List.map_toArray, List.map_cons, List.map_nil]); first | done | rfl | (simp only [List.length_drop, List.length_take]; rfl)) ?_; (with_reducible refine (letterlockref3_many.calls k3 (bt a0 0) t215 _ A29.out).mono ?_); rintro e w' ⟨rfl, ⟨nd, rfl⟩⟩; refine ⟨_, rfl, ?_⟩))
           (try simp only [Act.put, List.setIfInBounds_toArray, List.set_cons_zero, List.set_cons_succ])
           go_cut [80] (fun v80 wc => ∃ (kq : Nat) (x80_30 : Bool), v80 = .bool x80_30 ∧ Aside0 (letterlockref3_size.j3 kq a0 a1 x8_3 x9_3 x80_30 = some r) ∧ Aside0 (kq ≤ k3) ∧ Aside0 (Below w.heap.size w wc))
           case first =>
            have H := HC31.out
            clear HC31
            by_cases c33 : (bt a0 0) = 98
            ·rw [if_pos c33] at H
             have c33b0 : ((bt a0 0) == 98) = true := beq_iff_eq.mpr c33
             have c33b1 : ((bt a0 0) != 98) = false := bne_eq_false_iff_eq.mpr c33
             clear c33
             (first | rw [c33b0] | (simp only [i64_w, i32_w]; rw [c33b0]) | skip)
             by_cases c34 : x9_3 = 0
             ·rw [if_pos c34] at H
              have c34b0 : (x9_3 == 0) = true := beq_iff_eq.mpr c34
              have c34b1 : (x9_3 != 0) = false := bne_eq_false_iff_eq.mpr c34
              clear c34
              by_cases c35 : x8_3 ≥ (a0.size : Int)
              ·rw [if_pos c35] at H
               have c35b0 : decide ((a0.size : Int) ≤ x8_3) = true := decide_eq_true c35
               clear c35
               have H' := Aside0.mk H
               clear H
               have p32 : 0 ≤ (0 : Int) := (by omega)
               have q32 : 0 < a0.size := (by have : (0 : Int) < (a0.size : Int) := of_decide_eq_true (by first | (with_reducible assumption) | assumption); omega)
               have hx32 : ∀ h : 0 < a0.size, ((a0[0]'h).toNat : Int) = bt a0 0 := bt_at a0 0
               clear p32
               have qi32 : (0 < (a0.size : Int)) = True := eq_true (of_decide_eq_true (by first | (with_reducible assumption) | assumption))
               replace q32 := eq_true q32
               go_wp2
               go_meet
               case rel => exact ⟨_, (true), (by first | rfl | (simp; done) | (simp [*]; done)), H', ⟨by have := HJ2.out; have := HJ9.out; have := HK3.out; first | omega | exact Nat.le_refl _⟩, ⟨by repeat (first | (with_reducible first | exact HB.out | apply below_alloc | apply pw_below_drewN | apply below_drew1) | exact HB.out)⟩⟩
              ·rw [if_neg c35] at H
               have c35b0 : decide ((a0.size : Int) ≤ x8_3) = false := decide_eq_false c35
               clear c35
               by_cases c36 : 0 ≤ x8_3
               ·rw [if_pos c36] at H
                have c36b0 : decide (0 ≤ x8_3) = true := decide_eq_true c36
                clear c36
                by_cases c37 : x8_3 < (a0.size : Int)
                ·rw [if_pos c37] at H
                 have c37b0 : decide (x8_3 < (a0.size : Int)) = true := decide_eq_true c37
                 clear c37
                 have H' := Aside0.mk H
                 clear H
                 have p32 : 0 ≤ (0 : Int) := (by omega)
                 have q32 : 0 < a0.size := (by have : (0 : Int) < (a0.size : Int) := of_decide_eq_true (by first | (with_reducible assumption) | assumption); omega)
                 have hx32 : ∀ h : 0 < a0.size, ((a0[0]'h).toNat : Int) = bt a0 0 := bt_at a0 0
                 clear p32
                 have qi32 : (0 < (a0.size : Int)) = True := eq_true (of_decide_eq_true (by first | (with_reducible assumption) | assumption))
                 replace q32 := eq_true q32
                 have p38 : 0 ≤ (x8_3 : Int) := of_decide_eq_true (by first | (with_reducible assumption) | assumption)
                 have q38 : x8_3 < (a0.size : Int) := of_decide_eq_true (by first | (with_reducible assumption) | assumption)
                 have hx38 := bt_at a0 x8_3
                 replace p38 := eq_true p38
                 replace q38 := eq_true q38
                 go_wp2
                 go_meet
                 case rel => exact ⟨_, (((bt a0 x8_3) != 117)), (by first | rfl | (simp; done) | (simp [*]; done)), H', ⟨by have := HJ2.out; have := HJ9.out; have := HK3.out; first | omega | exact Nat.le_refl _⟩, ⟨by repeat (first | (with_reducible first | exact HB.out | apply below_alloc | apply pw_below_drewN | apply below_drew1) | exact HB.out)⟩⟩
                ·rw [if_neg c37] at H
                 exact absurd H (by simp)
               ·rw [if_neg c36] at H
                exact absurd H (by simp)
             ·rw [if_neg c34] at H
              have c34b0 : (x9_3 == 0) = false := beq_eq_false_iff_ne.mpr c34
              have c34b1 : (x9_3 != 0) = true := bne_iff_ne.mpr c34
              have H' := Aside0.mk H
              clear H
              have p32 : 0 ≤ (0 : Int) := (by omega)
              have q32 : 0 < a0.size := (by have : (0 : Int) < (a0.size : Int) := of_decide_eq_true (by first | (with_reducible assumption) | assumption); omega)
              have hx32 : ∀ h : 0 < a0.size, ((a0[0]'h).toNat : Int) = bt a0 0 := bt_at a0 0
              clear p32
              have qi32 : (0 < (a0.size : Int)) = True := eq_true (of_decide_eq_true (by first | (with_reducible assumption) | assumption))
              replace q32 := eq_true q32
              go_wp2
              go_meet
              case rel => exact ⟨_, (false), (by first | rfl | (simp; done) | (simp [*]; done)), H', ⟨by have := HJ2.out; have := HJ9.out; have := HK3.out; first | omega | exact Nat.le_refl _⟩, ⟨by repeat (first | (with_reducible first | exact HB.out | apply below_alloc | apply pw_below_drewN | apply below_drew1) | exact HB.out)⟩⟩
            ·rw [if_neg c33] at H
             have c33b0 : ((bt a0 0) == 98) = false := beq_eq_false_iff_ne.mpr c33
             have c33b1 : ((bt a0 0) != 98) = true := bne_iff_ne.mpr c33
             (first | rw [c33b0] | (simp only [i64_w, i32_w]; rw [c33b0]) | skip)
             have H' := Aside0.mk H
             clear H
             have p32 : 0 ≤ (0 : Int) := (by omega)
             have q32 : 0 < a0.size := (by have : (0 : Int) < (a0.size : Int) := of_decide_eq_true (by first | (with_reducible assumption) | assumption); omega)
             have hx32 : ∀ h : 0 < a0.size, ((a0[0]'h).toNat : Int) = bt a0 0 := bt_at a0 0
             clear p32
             have qi32 : (0 < (a0.size : Int)) = True := eq_true (of_decide_eq_true (by first | (with_reducible assumption) | assumption))
             replace q32 := eq_true q32
             go_wp2
             go_meet
             case rel => exact ⟨_, (false), (by first | rfl | (simp; done) | (simp [*]; done)), H', ⟨by have := HJ2.out; have := HJ9.out; have := HK3.out; first | omega | exact Nat.le_refl _⟩, ⟨by repeat (first | (with_reducible first | exact HB.out | apply below_alloc | apply pw_below_drewN | apply below_drew1) | exact HB.out)⟩⟩
           case rest =>
            clear HC31
            try clear c1
            try clear p1
            try clear q1
            try clear hx1
            try clear qi1
            try clear c2
            try clear p2
            try clear q2
            try clear hx2
            try clear qi2
            try clear c3
            try clear p3
            try clear q3
            try clear hx3
            try clear qi3
            try clear c4
            try clear c4b0
            try clear c4b1
            try clear c5
            try clear c5b0
            try clear c5b1
            try clear c6
            try clear c6b0
            try clear c6b1
            try clear p6
            try clear p7
            try clear q7
            try clear hx7
            try clear qi7
            try clear c9
            try clear c10
            try clear c11
            try clear c11b0
            try clear c11b1
            try clear c12
            try clear p12
            try clear q12
            try clear hx12
            try clear qi12
            try clear c13
            try clear c13b0
            try clear c13b1
            try clear p14
            try clear q14
            try clear hx14
            try clear qi14
            try clear c15
            try clear c16
            try clear c16b0
            try clear c16b1
            try clear c18
            try clear c18b0
            try clear c18b1
            try clear p19
            try clear q19
            try clear hx19
            try clear qi19
            try clear c20
            try clear c20b0
            try clear c20b1
            try clear c21
            try clear c21b0
            try clear c23
            try clear c23b0
            try clear c23b1
            try clear c26
            try clear c26b0
            try clear c26b1
            try clear c27
            try clear c27b0
            try clear c27b1
            try clear p28
            try clear q28
            try clear hx28
            try clear qi28
            try clear c30
            try clear c30b0
            try clear p32
            try clear q32
            try clear hx32
            try clear qi32
            try clear c33
            try clear c33b0
            try clear c33b1
            try clear c34
            try clear c34b0
            try clear c34b1
            try clear c35
            try clear c35b0
            try clear c36
            try clear c36b0
            try clear c37
            try clear c37b0
            try clear p38
            try clear q38
            try clear hx38
            try clear p1
            try clear p12
            try clear p14
            try clear p19
            try clear p2
            try clear p28
            try clear p32
            try clear p38
            try clear p6
            try clear p7
            try clear q1
            try clear q12
            try clear q14
            try clear q19
            try clear q28
            try clear q32
            try clear q38
            try clear q7
            obtain ⟨kq, x80_30, rfl, HA, HJ30, HB⟩ := hcut
            cases kq with
            | zero => exact absurd HA.out (by simp [letterlockref3_size.j3])
            | succ kj30 =>
             have H := HA.out
             clear HA
             simp only [letterlockref3_size.j3] at H
             by_cases c39 : x80_30 = true
             ·subst c39
              have H1 : (some 0) = some r := by rw [if_pos rfl] at H; exact H
              clear H
              have H := H1
              clear H1
              obtain rfl := Option.some.inj H
              go_wp2
              go_ret
              exact ⟨by first | rfl | (simp [errW_none, errW_some] <;> rfl) | (simp [*, errW_none, errW_some] <;> rfl), by repeat (first | (with_reducible first | exact HB.out | apply below_alloc | apply pw_below_drewN | apply below_drew1) | exact HB.out)⟩
             ·replace c39 := Bool.eq_false_iff.mpr c39
              subst c39
              have H1 : (if 0 ≤ x8_3 then (if x8_3 ≤ (a0.size : Int) then ((letterlockref3_size.f kj30 (a0.extract (x8_3 : Int).toNat a0.size) (wrap64 (a1 - 1))).bind fun t216 => (if t216 = 0 then (some 0) else (letterlockref3_size.l0 kj30 a0 a1 (wrap64 (x8_3 + t216)) (wrap64 (x9_3 + 1))))) else (none)) else (none)) = some r := by rw [if_neg (show ¬ (false = true) by decide)] at H; exact H
              clear H
              have H := H1
              clear H1
              by_cases c40 : 0 ≤ x8_3
              ·rw [if_pos c40] at H
               have c40b0 := eq_true c40
               have c40b1 : decide (0 ≤ x8_3) = true := decide_eq_true c40
               clear c40
               by_cases c41 : x8_3 ≤ (a0.size : Int)
               ·rw [if_pos c41] at H
                have c41b0 := eq_true c41
                have c41b1 : decide (x8_3 ≤ (a0.size : Int)) = true := decide_eq_true c41
                clear c41
                replace H := Option.bind_eq_some_iff.mp H
                obtain ⟨t216, A420, H⟩ := H
                replace H : (if t216 = 0 then (some 0) else (letterlockref3_size.l0 kj30 a0 a1 (wrap64 (x8_3 + t216)) (wrap64 (x9_3 + 1)))) = some r := H
                have A42 := Aside0.mk A420
                clear A420
                by_cases c43 : t216 = 0
                ·rw [if_pos c43] at H
                 have c43b0 : (t216 == 0) = true := beq_iff_eq.mpr c43
                 have c43b1 : (t216 != 0) = false := bne_eq_false_iff_eq.mpr c43
                 clear c43
                 obtain rfl := Option.some.inj H
                 go_wp2_with (first | ((with_reducible refine gate_callee (f := 103) rfl ?_); refine goesL_ (some 86) rfl rfl Tryz.func103 (by kernel_rfl) rfl #[.string (a0.extract (x8_3 : Int).toNat a0.size), .int .i64 (wrap64 (a1 - 1))] rfl (by (try simp only [List.map_toArray, List.map_cons, List.map_nil]); first | done | rfl | (simp only [List.length_drop, List.length_take]; rfl)) ?_; (with_reducible refine (ih kj30 (by have := HJ2.out; have := HJ9.out; have := HK3.out; have := HJ30.out; omega) (a0.extract (x8_3 : Int).toNat a0.size) (wrap64 (a1 - 1)) t216 _ A42.out).mono ?_); rintro e w44 ⟨rfl, hb⟩; refine ⟨_, rfl, ?_⟩; have n0_ := Aside0.mk (below_step (by repeat (first | (with_reducible first | exact HB.out | apply below_alloc | apply pw_below_drewN | apply below_drew1) | exact HB.out)) hb); clear HB; have HB := n0_; clear n0_; (try clear hb); (try clear hb2); (try clear hk); (try clear hi)))
                 go_ret
                 exact ⟨by first | rfl | (simp [errW_none, errW_some] <;> rfl) | (simp [*, errW_none, errW_some] <;> rfl), by repeat (first | (with_reducible first | exact HB.out | apply below_alloc | apply pw_below_drewN | apply below_drew1) | exact HB.out)⟩
                ·rw [if_neg c43] at H
                 have c43b0 : (t216 == 0) = false := beq_eq_false_iff_ne.mpr c43
                 have c43b1 : (t216 != 0) = true := bne_iff_ne.mpr c43
                 have H' := Aside0.mk H
                 clear H
                 go_wp2_with (first | ((with_reducible refine gate_callee (f := 103) rfl ?_); refine goesL_ (some 86) rfl rfl Tryz.func103 (by kernel_rfl) rfl #[.string (a0.extract (x8_3 : Int).toNat a0.size), .int .i64 (wrap64 (a1 - 1))] rfl (by (try simp only [List.map_toArray, List.map_cons, List.map_nil]); first | done | rfl | (simp only [List.length_drop, List.length_take]; rfl)) ?_; (with_reducible refine (ih kj30 (by have := HJ2.out; have := HJ9.out; have := HK3.out; have := HJ30.out; omega) (a0.extract (x8_3 : Int).toNat a0.size) (wrap64 (a1 - 1)) t216 _ A42.out).mono ?_); rintro e w45 ⟨rfl, hb⟩; refine ⟨_, rfl, ?_⟩; have n0_ := Aside0.mk (below_step (by repeat (first | (with_reducible first | exact HB.out | apply below_alloc | apply pw_below_drewN | apply below_drew1) | exact HB.out)) hb); clear HB; have HB := n0_; clear n0_; (try clear hb); (try clear hb2); (try clear hk); (try clear hi)))
                 go_roundg kj30
                 case measure => have := HJ2.out; have := HJ9.out; have := HK3.out; have := HJ30.out; omega
                 case rel => exact ⟨(wrap64 (x8_3 + t216)), (wrap64 (x9_3 + 1)), (by first | rfl | (simp; done) | (simp [*]; done)), (by first | rfl | (simp; done) | (simp [*]; done)), H', ⟨by have := HJ2.out; have := HJ9.out; have := HK3.out; have := HJ30.out; omega⟩, ⟨by repeat (first | (with_reducible first | exact HB.out | apply below_alloc | apply pw_below_drewN | apply below_drew1) | exact HB.out)⟩⟩
               ·rw [if_neg c41] at H
                exact absurd H (by simp)
              ·rw [if_neg c40] at H
               exact absurd H (by simp)
          ·rw [if_neg c30] at H
           have c30b0 : decide (x9_3 < t215) = false := decide_eq_false c30
           clear c30
           obtain rfl := Option.some.inj H
           have p28 : 0 ≤ (0 : Int) := (by omega)
           have q28 : 0 < a0.size := (by have : (0 : Int) < (a0.size : Int) := of_decide_eq_true (by first | (with_reducible assumption) | assumption); omega)
           have hx28 : ∀ h : 0 < a0.size, ((a0[0]'h).toNat : Int) = bt a0 0 := bt_at a0 0
           clear p28
           have qi28 : (0 < (a0.size : Int)) = True := eq_true (of_decide_eq_true (by first | (with_reducible assumption) | assumption))
           replace q28 := eq_true q28
           go_wp2_with (first | ((with_reducible refine gate_callee (f := 123) rfl ?_); refine goesL_ (some 58) rfl rfl Tryz.func123 (by kernel_rfl) rfl #[.int .u8 (bt a0 0)] rfl (by (try simp only [List.map_toArray, List.map_cons, List.map_nil]); first | done | rfl | (simp only [List.length_drop, List.length_take]; rfl)) ?_; (with_reducible refine (letterlockref3_many.calls k3 (bt a0 0) t215 _ A29.out).mono ?_); rintro e w' ⟨rfl, ⟨nd, rfl⟩⟩; refine ⟨_, rfl, ?_⟩))
           go_ret
           exact ⟨by first | rfl | (simp [errW_none, errW_some] <;> rfl) | (simp [*, errW_none, errW_some] <;> rfl), by repeat (first | (with_reducible first | exact HB.out | apply below_alloc | apply pw_below_drewN | apply below_drew1) | exact HB.out)⟩
         ·rw [if_neg c27] at H
          exact absurd H (by simp)
def letterlockref3_Right.f (k : Nat) (a0 : ByteArray) : Option (Bool) := if a0.toList = ([] : List UInt8) then (some false) else (if (a0.size : Int) ≤ 4000 then ((letterlockref3_size.f k a0 40).bind fun t217 => (some (t217 == (a0.size : Int)))) else (some false))
set_option maxHeartbeats 8000000 in
set_option maxRecDepth 100000 in
theorem letterlockref3_Right.calls (k : Nat) (a0 : ByteArray) (r : Bool) (w : World) (h : letterlockref3_Right.f k a0 = some r) :
  Calls Tryz.prog 57 #[.string a0] w fun e w' => e = .returned (.bool r) ∧ Below w.heap.size w w' := by
 have HB := Aside0.mk (Below.refl w.heap.size w)
 have H : (if a0.toList = ([] : List UInt8) then (some false) else (if (a0.size : Int) ≤ 4000 then ((letterlockref3_size.f k a0 40).bind fun t217 => (some (t217 == (a0.size : Int)))) else (some false))) = some r := h
 clear h
 by_cases c2 : a0.toList = ([] : List UInt8)
 ·rw [if_pos c2] at H
  have c2b0 : (a0.toList == ([] : List UInt8)) = true := beq_iff_eq.mpr c2
  have c2b1 : (a0.toList != ([] : List UInt8)) = false := bne_eq_false_iff_eq.mpr c2
  clear c2
  obtain rfl := Option.some.inj H
  go_enter Tryz.func57, Tryz.ntmps57
  go_wp2
  go_ret
  exact ⟨by first | rfl | (simp [errW_none, errW_some] <;> rfl) | (simp [*, errW_none, errW_some] <;> rfl), by repeat (first | (with_reducible first | exact HB.out | apply below_alloc | apply pw_below_drewN | apply below_drew1) | exact HB.out)⟩
 ·rw [if_neg c2] at H
  have c2b0 : (a0.toList == ([] : List UInt8)) = false := beq_eq_false_iff_ne.mpr c2
  have c2b1 : (a0.toList != ([] : List UInt8)) = true := bne_iff_ne.mpr c2
  by_cases c3 : (a0.size : Int) ≤ 4000
  ·rw [if_pos c3] at H
   have c3b0 : decide ((a0.size : Int) ≤ 4000) = true := decide_eq_true c3
   have c3b1 : decide (a0.size ≤ 4000) = true := decide_eq_true (by omega)
   clear c3
   replace H := Option.bind_eq_some_iff.mp H
   obtain ⟨t217, A40, H⟩ := H
   replace H : (some (t217 == (a0.size : Int))) = some r := H
   have A4 := Aside0.mk A40
   clear A40
   obtain rfl := Option.some.inj H
   go_enter Tryz.func57, Tryz.ntmps57
   go_wp2_with (first | (go_at_call 103; (with_reducible refine (letterlockref3_size.calls k a0 40 t217 _ A4.out).mono ?_); rintro e w5 ⟨rfl, hb⟩; have n0_ := Aside0.mk (below_step (by repeat (first | (with_reducible first | exact HB.out | apply below_alloc | apply pw_below_drewN | apply below_drew1) | exact HB.out)) hb); clear HB; have HB := n0_; clear n0_; (try clear hb); (try clear hb2); (try clear hk); (try clear hi)))
   go_ret
   exact ⟨by first | rfl | (simp [errW_none, errW_some] <;> rfl) | (simp [*, errW_none, errW_some] <;> rfl), by repeat (first | (with_reducible first | exact HB.out | apply below_alloc | apply pw_below_drewN | apply below_drew1) | exact HB.out)⟩
  ·rw [if_neg c3] at H
   have c3b0 : decide ((a0.size : Int) ≤ 4000) = false := decide_eq_false c3
   have c3b1 : decide (a0.size ≤ 4000) = false := decide_eq_false (by omega)
   clear c3
   obtain rfl := Option.some.inj H
   go_enter Tryz.func57, Tryz.ntmps57
   go_wp2
   go_ret
   exact ⟨by first | rfl | (simp [errW_none, errW_some] <;> rfl) | (simp [*, errW_none, errW_some] <;> rfl), by repeat (first | (with_reducible first | exact HB.out | apply below_alloc | apply pw_below_drewN | apply below_drew1) | exact HB.out)⟩
end Go.Proofs.YtphehoidkmficaaGreatDoor.PA
end
section

namespace Go.Proofs.YtphehoidkmficaaGreatDoor.PA
open Go.RowKit Go.Proofs.YtphehoidkmficaaGreatDoorW.PrintWords Go.Proofs.YtphehoidkmficaaGreatDoorW.PrintLast Go.Proofs.YtphehoidkmficaaGreatDoorW.PrintMore
attribute [local go_sem] max2_int min2_int max_two min_two max_three min_three max_four min_four   -- for this text's walks alone
set_option linter.unusedVariables false
set_option linter.unusedSimpArgs false
def letterlockref3_made.f (k : Nat) (a0 : ByteArray) : Option (ByteArray × Int) := (letterlockref3_Right.f k a0).bind fun t218 => (if t218 = true then (some (a0, 0)) else (some ((⟨#[]⟩ : ByteArray), 10)))
set_option maxHeartbeats 8000000 in
set_option maxRecDepth 100000 in
theorem letterlockref3_made.calls (k : Nat) (a0 : ByteArray) (r1 : ByteArray) (r2 : Int) (w : World) (h : letterlockref3_made.f k a0 = some (r1, r2)) :
  Calls Tryz.prog 105 #[.string a0] w fun e w' => e = .returned (.tuple #[.string r1, .int .i64 r2]) ∧ Below w.heap.size w w' := by
 have HB := Aside0.mk (Below.refl w.heap.size w)
 have H : ((letterlockref3_Right.f k a0).bind fun t218 => (if t218 = true then (some (a0, 0)) else (some ((⟨#[]⟩ : ByteArray), 10)))) = some (r1, r2) := h
 clear h
 replace H := Option.bind_eq_some_iff.mp H
 obtain ⟨t218, A20, H⟩ := H
 replace H : (if t218 = true then (some (a0, 0)) else (some ((⟨#[]⟩ : ByteArray), 10))) = some (r1, r2) := H
 have A2 := Aside0.mk A20
 clear A20
 by_cases c3 : t218 = true
 ·subst c3
  have H1 : (some (a0, 0)) = some (r1, r2) := by rw [if_pos rfl] at H; exact H
  clear H
  have H := H1
  clear H1
  simp only [Option.some.injEq, Prod.mk.injEq] at H
  obtain ⟨rfl, rfl⟩ := H
  go_enter Tryz.func105, Tryz.ntmps105
  go_wp2_with (first | ((with_reducible refine gate_callee (f := 57) rfl ?_); refine goesL_ (some 5) rfl rfl Tryz.func57 (by kernel_rfl) rfl #[.string a0] rfl (by (try simp only [List.map_toArray, List.map_cons, List.map_nil]); first | done | rfl | (simp only [List.length_drop, List.length_take]; rfl)) ?_; (with_reducible refine (letterlockref3_Right.calls k a0 true _ A2.out).mono ?_); rintro e w4 ⟨rfl, hb⟩; refine ⟨_, rfl, ?_⟩; have n0_ := Aside0.mk (below_step (by repeat (first | (with_reducible first | exact HB.out | apply below_alloc | apply pw_below_drewN | apply below_drew1) | exact HB.out)) hb); clear HB; have HB := n0_; clear n0_; (try clear hb); (try clear hb2); (try clear hk); (try clear hi)))
  go_ret2
  exact ⟨by first | rfl | (simp [errW_none, errW_some] <;> rfl) | (simp [*, errW_none, errW_some] <;> rfl), by repeat (first | (with_reducible first | exact HB.out | apply below_alloc | apply pw_below_drewN | apply below_drew1) | exact HB.out)⟩
 ·replace c3 := Bool.eq_false_iff.mpr c3
  subst c3
  have H1 : (some ((⟨#[]⟩ : ByteArray), 10)) = some (r1, r2) := by rw [if_neg (show ¬ (false = true) by decide)] at H; exact H
  clear H
  have H := H1
  clear H1
  simp only [Option.some.injEq, Prod.mk.injEq] at H
  obtain ⟨rfl, rfl⟩ := H
  go_enter Tryz.func105, Tryz.ntmps105
  go_wp2_with (first | ((with_reducible refine gate_callee (f := 57) rfl ?_); refine goesL_ (some 5) rfl rfl Tryz.func57 (by kernel_rfl) rfl #[.string a0] rfl (by (try simp only [List.map_toArray, List.map_cons, List.map_nil]); first | done | rfl | (simp only [List.length_drop, List.length_take]; rfl)) ?_; (with_reducible refine (letterlockref3_Right.calls k a0 false _ A2.out).mono ?_); rintro e w5 ⟨rfl, hb⟩; refine ⟨_, rfl, ?_⟩; have n0_ := Aside0.mk (below_step (by repeat (first | (with_reducible first | exact HB.out | apply below_alloc | apply pw_below_drewN | apply below_drew1) | exact HB.out)) hb); clear HB; have HB := n0_; clear n0_; (try clear hb); (try clear hb2); (try clear hk); (try clear hi)))
  go_ret2
  exact ⟨by first | rfl | (simp [errW_none, errW_some] <;> rfl) | (simp [*, errW_none, errW_some] <;> rfl), by repeat (first | (with_reducible first | exact HB.out | apply below_alloc | apply pw_below_drewN | apply below_drew1) | exact HB.out)⟩
def letterlockref3_one.f (k : Nat) (a0 : ByteArray) (a1 : ByteArray) : Option (ByteArray × Int) := (letterlockref3_Right.f k a1).bind fun t219 => (if t219 = true then (if a0.size + a1.size ≤ 9223372036854775807 then ((letterlockref3_made.f k (a0 ++ a1)).bind fun bt220 => (some (bt220.1, bt220.2))) else (none)) else (some ((⟨#[]⟩ : ByteArray), 1)))
set_option maxHeartbeats 8000000 in
set_option maxRecDepth 100000 in
theorem letterlockref3_one.calls (k : Nat) (a0 : ByteArray) (a1 : ByteArray) (r1 : ByteArray) (r2 : Int) (w : World) (h : letterlockref3_one.f k a0 a1 = some (r1, r2)) :
  Calls Tryz.prog 112 #[.string a0, .string a1] w fun e w' => e = .returned (.tuple #[.string r1, .int .i64 r2]) ∧ Below w.heap.size w w' := by
 have HB := Aside0.mk (Below.refl w.heap.size w)
 have H : ((letterlockref3_Right.f k a1).bind fun t219 => (if t219 = true then (if a0.size + a1.size ≤ 9223372036854775807 then ((letterlockref3_made.f k (a0 ++ a1)).bind fun bt220 => (some (bt220.1, bt220.2))) else (none)) else (some ((⟨#[]⟩ : ByteArray), 1)))) = some (r1, r2) := h
 clear h
 replace H := Option.bind_eq_some_iff.mp H
 obtain ⟨t219, A30, H⟩ := H
 replace H : (if t219 = true then (if a0.size + a1.size ≤ 9223372036854775807 then ((letterlockref3_made.f k (a0 ++ a1)).bind fun bt220 => (some (bt220.1, bt220.2))) else (none)) else (some ((⟨#[]⟩ : ByteArray), 1))) = some (r1, r2) := H
 have A3 := Aside0.mk A30
 clear A30
 by_cases c4 : t219 = true
 ·subst c4
  have H1 : (if a0.size + a1.size ≤ 9223372036854775807 then ((letterlockref3_made.f k (a0 ++ a1)).bind fun bt220 => (some (bt220.1, bt220.2))) else (none)) = some (r1, r2) := by rw [if_pos rfl] at H; exact H
  clear H
  have H := H1
  clear H1
  by_cases c5 : a0.size + a1.size ≤ 9223372036854775807
  ·rw [if_pos c5] at H
   have c5b0 := eq_true c5
   have c5b1 : decide (a0.size + a1.size ≤ 9223372036854775807) = true := decide_eq_true c5
   try have c5b2 : (9223372036854775807 < a0.size + a1.size) = False := eq_false (Nat.not_lt.2 c5)
   replace H := Option.bind_eq_some_iff.mp H
   obtain ⟨⟨t220, t221⟩, A60, H⟩ := H
   replace H : (some (t220, t221)) = some (r1, r2) := H
   have A6 := Aside0.mk A60
   clear A60
   simp only [Option.some.injEq, Prod.mk.injEq] at H
   obtain ⟨rfl, rfl⟩ := H
   go_enter Tryz.func112, Tryz.ntmps112
   go_wp2_with (first | ((with_reducible refine gate_callee (f := 57) rfl ?_); refine goesL_ (some 7) rfl rfl Tryz.func57 (by kernel_rfl) rfl #[.string a1] rfl (by (try simp only [List.map_toArray, List.map_cons, List.map_nil]); first | done | rfl | (simp only [List.length_drop, List.length_take]; rfl)) ?_; (with_reducible refine (letterlockref3_Right.calls k a1 true _ A3.out).mono ?_); rintro e w7 ⟨rfl, hb⟩; refine ⟨_, rfl, ?_⟩; have n0_ := Aside0.mk (below_step (by repeat (first | (with_reducible first | exact HB.out | apply below_alloc | apply pw_below_drewN | apply below_drew1) | exact HB.out)) hb); clear HB; have HB := n0_; clear n0_; (try clear hb); (try clear hb2); (try clear hk); (try clear hi)) | ((with_reducible refine gate_callee (f := 105) rfl ?_); refine goesL_ (some 12) rfl rfl Tryz.func105 (by kernel_rfl) rfl #[.string (a0 ++ a1)] rfl (by (try simp only [List.map_toArray, List.map_cons, List.map_nil]); first | done | rfl | (simp only [List.length_drop, List.length_take]; rfl)) ?_; (with_reducible refine (letterlockref3_made.calls k (a0 ++ a1) t220 t221 _ A6.out).mono ?_); rintro e w8 ⟨rfl, hb⟩; refine ⟨_, rfl, ?_⟩; have n0_ := Aside0.mk (below_step (by repeat (first | (with_reducible first | exact HB.out | apply below_alloc | apply pw_below_drewN | apply below_drew1) | exact HB.out)) hb); clear HB; have HB := n0_; clear n0_; (try clear hb); (try clear hb2); (try clear hk); (try clear hi)))
   go_ret2
   exact ⟨by first | rfl | (simp [errW_none, errW_some] <;> rfl) | (simp [*, errW_none, errW_some] <;> rfl), by repeat (first | (with_reducible first | exact HB.out | apply below_alloc | apply pw_below_drewN | apply below_drew1) | exact HB.out)⟩
  ·rw [if_neg c5] at H
   exact absurd H (by simp)
 ·replace c4 := Bool.eq_false_iff.mpr c4
  subst c4
  have H1 : (some ((⟨#[]⟩ : ByteArray), 1)) = some (r1, r2) := by rw [if_neg (show ¬ (false = true) by decide)] at H; exact H
  clear H
  have H := H1
  clear H1
  simp only [Option.some.injEq, Prod.mk.injEq] at H
  obtain ⟨rfl, rfl⟩ := H
  go_enter Tryz.func112, Tryz.ntmps112
  go_wp2_with (first | ((with_reducible refine gate_callee (f := 57) rfl ?_); refine goesL_ (some 7) rfl rfl Tryz.func57 (by kernel_rfl) rfl #[.string a1] rfl (by (try simp only [List.map_toArray, List.map_cons, List.map_nil]); first | done | rfl | (simp only [List.length_drop, List.length_take]; rfl)) ?_; (with_reducible refine (letterlockref3_Right.calls k a1 false _ A3.out).mono ?_); rintro e w9 ⟨rfl, hb⟩; refine ⟨_, rfl, ?_⟩; have n0_ := Aside0.mk (below_step (by repeat (first | (with_reducible first | exact HB.out | apply below_alloc | apply pw_below_drewN | apply below_drew1) | exact HB.out)) hb); clear HB; have HB := n0_; clear n0_; (try clear hb); (try clear hb2); (try clear hk); (try clear hi)))
  go_ret2
  exact ⟨by first | rfl | (simp [errW_none, errW_some] <;> rfl) | (simp [*, errW_none, errW_some] <;> rfl), by repeat (first | (with_reducible first | exact HB.out | apply below_alloc | apply pw_below_drewN | apply below_drew1) | exact HB.out)⟩
def letterlockref3_OfPublic.f (k : Nat) (a0 : ByteArray) : Option (ByteArray × Int) := (letterlockref3_one.f k (⟨#[117]⟩ : ByteArray) a0).bind fun bt222 => (some (bt222.1, bt222.2))
set_option maxHeartbeats 8000000 in
set_option maxRecDepth 100000 in
theorem letterlockref3_OfPublic.calls (k : Nat) (a0 : ByteArray) (r1 : ByteArray) (r2 : Int) (w : World) (h : letterlockref3_OfPublic.f k a0 = some (r1, r2)) :
  Calls Tryz.prog 79 #[.string a0] w fun e w' => e = .returned (.tuple #[.string r1, .int .i64 r2]) ∧ Below w.heap.size w w' := by
 have HB := Aside0.mk (Below.refl w.heap.size w)
 have H : ((letterlockref3_one.f k (⟨#[117]⟩ : ByteArray) a0).bind fun bt222 => (some (bt222.1, bt222.2))) = some (r1, r2) := h
 clear h
 replace H := Option.bind_eq_some_iff.mp H
 obtain ⟨⟨t222, t223⟩, A20, H⟩ := H
 replace H : (some (t222, t223)) = some (r1, r2) := H
 have A2 := Aside0.mk A20
 clear A20
 simp only [Option.some.injEq, Prod.mk.injEq] at H
 obtain ⟨rfl, rfl⟩ := H
 go_enter Tryz.func79, Tryz.ntmps79
 go_wp2_with (first | ((with_reducible refine gate_callee (f := 112) rfl ?_); refine goesL_ (some 5) rfl rfl Tryz.func112 (by kernel_rfl) rfl #[.string (⟨#[117]⟩ : ByteArray), .string a0] rfl (by (try simp only [List.map_toArray, List.map_cons, List.map_nil]); first | done | rfl | (simp only [List.length_drop, List.length_take]; rfl)) ?_; (with_reducible refine (letterlockref3_one.calls k (⟨#[117]⟩ : ByteArray) a0 t222 t223 _ A2.out).mono ?_); rintro e w3 ⟨rfl, hb⟩; refine ⟨_, rfl, ?_⟩; have n0_ := Aside0.mk (below_step (by repeat (first | (with_reducible first | exact HB.out | apply below_alloc | apply pw_below_drewN | apply below_drew1) | exact HB.out)) hb); clear HB; have HB := n0_; clear n0_; (try clear hb); (try clear hb2); (try clear hk); (try clear hi)))
 go_ret2
 exact ⟨by first | rfl | (simp [errW_none, errW_some] <;> rfl) | (simp [*, errW_none, errW_some] <;> rfl), by repeat (first | (with_reducible first | exact HB.out | apply below_alloc | apply pw_below_drewN | apply below_drew1) | exact HB.out)⟩
end Go.Proofs.YtphehoidkmficaaGreatDoor.PA
end
section

namespace Go.Proofs.YtphehoidkmficaaGreatDoor.PA
open Go.RowKit Go.Proofs.YtphehoidkmficaaGreatDoorW.PrintWords Go.Proofs.YtphehoidkmficaaGreatDoorW.PrintLast Go.Proofs.YtphehoidkmficaaGreatDoorW.PrintMore
attribute [local go_sem] max2_int min2_int max_two min_two max_three min_three max_four min_four   -- for this text's walks alone
set_option linter.unusedVariables false
set_option linter.unusedSimpArgs false
def letterlockref3_two.f (k : Nat) (a0 : ByteArray) (a1 : ByteArray) (a2 : ByteArray) : Option (ByteArray × Int) := (letterlockref3_Right.f k a1).bind fun t248 => (if t248 = true then ((letterlockref3_Right.f k a2).bind fun t249 => (if t249 = true then (if a0.size + a1.size ≤ 9223372036854775807 then (if (a0 ++ a1).size + a2.size ≤ 9223372036854775807 then ((letterlockref3_made.f k ((a0 ++ a1) ++ a2)).bind fun bt250 => (some (bt250.1, bt250.2))) else (none)) else (none)) else (some ((⟨#[]⟩ : ByteArray), 1)))) else (some ((⟨#[]⟩ : ByteArray), 1)))
set_option maxHeartbeats 8000000 in
set_option maxRecDepth 100000 in
theorem letterlockref3_two.calls (k : Nat) (a0 : ByteArray) (a1 : ByteArray) (a2 : ByteArray) (r1 : ByteArray) (r2 : Int) (w : World) (h : letterlockref3_two.f k a0 a1 a2 = some (r1, r2)) :
  Calls Tryz.prog 106 #[.string a0, .string a1, .string a2] w fun e w' => e = .returned (.tuple #[.string r1, .int .i64 r2]) ∧ Below w.heap.size w w' := by
 have HB := Aside0.mk (Below.refl w.heap.size w)
 have H : ((letterlockref3_Right.f k a1).bind fun t248 => (if t248 = true then ((letterlockref3_Right.f k a2).bind fun t249 => (if t249 = true then (if a0.size + a1.size ≤ 9223372036854775807 then (if (a0 ++ a1).size + a2.size ≤ 9223372036854775807 then ((letterlockref3_made.f k ((a0 ++ a1) ++ a2)).bind fun bt250 => (some (bt250.1, bt250.2))) else (none)) else (none)) else (some ((⟨#[]⟩ : ByteArray), 1)))) else (some ((⟨#[]⟩ : ByteArray), 1)))) = some (r1, r2) := h
 clear h
 replace H := Option.bind_eq_some_iff.mp H
 obtain ⟨t248, A40, H⟩ := H
 replace H : (if t248 = true then ((letterlockref3_Right.f k a2).bind fun t249 => (if t249 = true then (if a0.size + a1.size ≤ 9223372036854775807 then (if (a0 ++ a1).size + a2.size ≤ 9223372036854775807 then ((letterlockref3_made.f k ((a0 ++ a1) ++ a2)).bind fun bt250 => (some (bt250.1, bt250.2))) else (none)) else (none)) else (some ((⟨#[]⟩ : ByteArray), 1)))) else (some ((⟨#[]⟩ : ByteArray), 1))) = some (r1, r2) := H
 have A4 := Aside0.mk A40
 clear A40
 by_cases c5 : t248 = true
 ·subst c5
  have H1 : ((letterlockref3_Right.f k a2).bind fun t249 => (if t249 = true then (if a0.size + a1.size ≤ 9223372036854775807 then (if (a0 ++ a1).size + a2.size ≤ 9223372036854775807 then ((letterlockref3_made.f k ((a0 ++ a1) ++ a2)).bind fun bt250 => (some (bt250.1, bt250.2))) else (none)) else (none)) else (some ((⟨#[]⟩ : ByteArray), 1)))) = some (r1, r2) := by rw [if_pos rfl] at H; exact H
  clear H
  have H := H1
  clear H1
  replace H := Option.bind_eq_some_iff.mp H
  obtain ⟨t249, A60, H⟩ := H
  replace H : (if t249 = true then (if a0.size + a1.size ≤ 9223372036854775807 then (if (a0 ++ a1).size + a2.size ≤ 9223372036854775807 then ((letterlockref3_made.f k ((a0 ++ a1) ++ a2)).bind fun bt250 => (some (bt250.1, bt250.2))) else (none)) else (none)) else (some ((⟨#[]⟩ : ByteArray), 1))) = some (r1, r2) := H
  have A6 := Aside0.mk A60
  clear A60
  by_cases c7 : t249 = true
  ·subst c7
   have H1 : (if a0.size + a1.size ≤ 9223372036854775807 then (if (a0 ++ a1).size + a2.size ≤ 9223372036854775807 then ((letterlockref3_made.f k ((a0 ++ a1) ++ a2)).bind fun bt250 => (some (bt250.1, bt250.2))) else (none)) else (none)) = some (r1, r2) := by rw [if_pos rfl] at H; exact H
   clear H
   have H := H1
   clear H1
   by_cases c8 : a0.size + a1.size ≤ 9223372036854775807
   ·rw [if_pos c8] at H
    have c8b0 := eq_true c8
    have c8b1 : decide (a0.size + a1.size ≤ 9223372036854775807) = true := decide_eq_true c8
    try have c8b2 : (9223372036854775807 < a0.size + a1.size) = False := eq_false (Nat.not_lt.2 c8)
    by_cases c9 : (a0 ++ a1).size + a2.size ≤ 9223372036854775807
    ·rw [if_pos c9] at H
     have c9b0 := eq_true c9
     have c9b1 : decide ((a0 ++ a1).size + a2.size ≤ 9223372036854775807) = true := decide_eq_true c9
     try have c9b2 : (9223372036854775807 < (a0 ++ a1).size + a2.size) = False := eq_false (Nat.not_lt.2 c9)
     replace H := Option.bind_eq_some_iff.mp H
     obtain ⟨⟨t250, t251⟩, A100, H⟩ := H
     replace H : (some (t250, t251)) = some (r1, r2) := H
     have A10 := Aside0.mk A100
     clear A100
     simp only [Option.some.injEq, Prod.mk.injEq] at H
     obtain ⟨rfl, rfl⟩ := H
     go_enter Tryz.func106, Tryz.ntmps106
     go_wp2_with (first | ((with_reducible refine gate_callee (f := 57) rfl ?_); refine goesL_ (some 9) rfl rfl Tryz.func57 (by kernel_rfl) rfl #[.string a1] rfl (by (try simp only [List.map_toArray, List.map_cons, List.map_nil]); first | done | rfl | (simp only [List.length_drop, List.length_take]; rfl)) ?_; (with_reducible refine (letterlockref3_Right.calls k a1 true _ A4.out).mono ?_); rintro e w11 ⟨rfl, hb⟩; refine ⟨_, rfl, ?_⟩; have n0_ := Aside0.mk (below_step (by repeat (first | (with_reducible first | exact HB.out | apply below_alloc | apply pw_below_drewN | apply below_drew1) | exact HB.out)) hb); clear HB; have HB := n0_; clear n0_; (try clear hb); (try clear hb2); (try clear hk); (try clear hi)) | (go_at_call 57; (with_reducible refine (letterlockref3_Right.calls k a2 true _ A6.out).mono ?_); rintro e w12 ⟨rfl, hb⟩; have n0_ := Aside0.mk (below_step (by repeat (first | (with_reducible first | exact HB.out | apply below_alloc | apply pw_below_drewN | apply below_drew1) | exact HB.out)) hb); clear HB; have HB := n0_; clear n0_; (try clear hb); (try clear hb2); (try clear hk); (try clear hi)) | ((with_reducible refine gate_callee (f := 105) rfl ?_); refine goesL_ (some 21) rfl rfl Tryz.func105 (by kernel_rfl) rfl #[.string ((a0 ++ a1) ++ a2)] rfl (by (try simp only [List.map_toArray, List.map_cons, List.map_nil]); first | done | rfl | (simp only [List.length_drop, List.length_take]; rfl)) ?_; (with_reducible refine (letterlockref3_made.calls k ((a0 ++ a1) ++ a2) t250 t251 _ A10.out).mono ?_); rintro e w13 ⟨rfl, hb⟩; refine ⟨_, rfl, ?_⟩; have n0_ := Aside0.mk (below_step (by repeat (first | (with_reducible first | exact HB.out | apply below_alloc | apply pw_below_drewN | apply below_drew1) | exact HB.out)) hb); clear HB; have HB := n0_; clear n0_; (try clear hb); (try clear hb2); (try clear hk); (try clear hi)))
     go_ret2
     exact ⟨by first | rfl | (simp [errW_none, errW_some] <;> rfl) | (simp [*, errW_none, errW_some] <;> rfl), by repeat (first | (with_reducible first | exact HB.out | apply below_alloc | apply pw_below_drewN | apply below_drew1) | exact HB.out)⟩
    ·rw [if_neg c9] at H
     exact absurd H (by simp)
   ·rw [if_neg c8] at H
    exact absurd H (by simp)
  ·replace c7 := Bool.eq_false_iff.mpr c7
   subst c7
   have H1 : (some ((⟨#[]⟩ : ByteArray), 1)) = some (r1, r2) := by rw [if_neg (show ¬ (false = true) by decide)] at H; exact H
   clear H
   have H := H1
   clear H1
   simp only [Option.some.injEq, Prod.mk.injEq] at H
   obtain ⟨rfl, rfl⟩ := H
   go_enter Tryz.func106, Tryz.ntmps106
   go_wp2_with (first | ((with_reducible refine gate_callee (f := 57) rfl ?_); refine goesL_ (some 9) rfl rfl Tryz.func57 (by kernel_rfl) rfl #[.string a1] rfl (by (try simp only [List.map_toArray, List.map_cons, List.map_nil]); first | done | rfl | (simp only [List.length_drop, List.length_take]; rfl)) ?_; (with_reducible refine (letterlockref3_Right.calls k a1 true _ A4.out).mono ?_); rintro e w14 ⟨rfl, hb⟩; refine ⟨_, rfl, ?_⟩; have n0_ := Aside0.mk (below_step (by repeat (first | (with_reducible first | exact HB.out | apply below_alloc | apply pw_below_drewN | apply below_drew1) | exact HB.out)) hb); clear HB; have HB := n0_; clear n0_; (try clear hb); (try clear hb2); (try clear hk); (try clear hi)) | (go_at_call 57; (with_reducible refine (letterlockref3_Right.calls k a2 false _ A6.out).mono ?_); rintro e w15 ⟨rfl, hb⟩; have n0_ := Aside0.mk (below_step (by repeat (first | (with_reducible first | exact HB.out | apply below_alloc | apply pw_below_drewN | apply below_drew1) | exact HB.out)) hb); clear HB; have HB := n0_; clear n0_; (try clear hb); (try clear hb2); (try clear hk); (try clear hi)))
   go_ret2
   exact ⟨by first | rfl | (simp [errW_none, errW_some] <;> rfl) | (simp [*, errW_none, errW_some] <;> rfl), by repeat (first | (with_reducible first | exact HB.out | apply below_alloc | apply pw_below_drewN | apply below_drew1) | exact HB.out)⟩
 ·replace c5 := Bool.eq_false_iff.mpr c5
  subst c5
  have H1 : (some ((⟨#[]⟩ : ByteArray), 1)) = some (r1, r2) := by rw [if_neg (show ¬ (false = true) by decide)] at H; exact H
  clear H
  have H := H1
  clear H1
  simp only [Option.some.injEq, Prod.mk.injEq] at H
  obtain ⟨rfl, rfl⟩ := H
  go_enter Tryz.func106, Tryz.ntmps106
  go_wp2_with (first | ((with_reducible refine gate_callee (f := 57) rfl ?_); refine goesL_ (some 9) rfl rfl Tryz.func57 (by kernel_rfl) rfl #[.string a1] rfl (by (try simp only [List.map_toArray, List.map_cons, List.map_nil]); first | done | rfl | (simp only [List.length_drop, List.length_take]; rfl)) ?_; (with_reducible refine (letterlockref3_Right.calls k a1 false _ A4.out).mono ?_); rintro e w16 ⟨rfl, hb⟩; refine ⟨_, rfl, ?_⟩; have n0_ := Aside0.mk (below_step (by repeat (first | (with_reducible first | exact HB.out | apply below_alloc | apply pw_below_drewN | apply below_drew1) | exact HB.out)) hb); clear HB; have HB := n0_; clear n0_; (try clear hb); (try clear hb2); (try clear hk); (try clear hi)))
  go_ret2
  exact ⟨by first | rfl | (simp [errW_none, errW_some] <;> rfl) | (simp [*, errW_none, errW_some] <;> rfl), by repeat (first | (with_reducible first | exact HB.out | apply below_alloc | apply pw_below_drewN | apply below_drew1) | exact HB.out)⟩
def letterlockref3_OfText.f (k : Nat) (a0 : ByteArray) : Option (ByteArray × Int) := (letterlockref2_PutText.f k a0).bind fun t256 => (if 1 + t256.size ≤ 9223372036854775807 then ((letterlockref3_made.f k ((⟨#[116]⟩ : ByteArray) ++ t256)).bind fun bt257 => (some (bt257.1, bt257.2))) else (none))
set_option maxHeartbeats 8000000 in
set_option maxRecDepth 100000 in
theorem letterlockref3_OfText.calls (k : Nat) (a0 : ByteArray) (r1 : ByteArray) (r2 : Int) (w : World) (h : letterlockref3_OfText.f k a0 = some (r1, r2)) :
  Calls Tryz.prog 59 #[.string a0] w fun e w' => e = .returned (.tuple #[.string r1, .int .i64 r2]) ∧ Below w.heap.size w w' := by
 have HB := Aside0.mk (Below.refl w.heap.size w)
 have H : ((letterlockref2_PutText.f k a0).bind fun t256 => (if 1 + t256.size ≤ 9223372036854775807 then ((letterlockref3_made.f k ((⟨#[116]⟩ : ByteArray) ++ t256)).bind fun bt257 => (some (bt257.1, bt257.2))) else (none))) = some (r1, r2) := h
 clear h
 replace H := Option.bind_eq_some_iff.mp H
 obtain ⟨t256, A20, H⟩ := H
 replace H : (if 1 + t256.size ≤ 9223372036854775807 then ((letterlockref3_made.f k ((⟨#[116]⟩ : ByteArray) ++ t256)).bind fun bt257 => (some (bt257.1, bt257.2))) else (none)) = some (r1, r2) := H
 have A2 := Aside0.mk A20
 clear A20
 by_cases c3 : 1 + t256.size ≤ 9223372036854775807
 ·rw [if_pos c3] at H
  have c3b0 := eq_true c3
  have c3b1 : decide (1 + t256.size ≤ 9223372036854775807) = true := decide_eq_true c3
  try have c3b2 : (9223372036854775807 < 1 + t256.size) = False := eq_false (Nat.not_lt.2 c3)
  replace H := Option.bind_eq_some_iff.mp H
  obtain ⟨⟨t257, t258⟩, A40, H⟩ := H
  replace H : (some (t257, t258)) = some (r1, r2) := H
  have A4 := Aside0.mk A40
  clear A40
  simp only [Option.some.injEq, Prod.mk.injEq] at H
  obtain ⟨rfl, rfl⟩ := H
  go_enter Tryz.func59, Tryz.ntmps59
  go_wp2_with (first | ((with_reducible refine gate_callee (f := 91) rfl ?_); refine goesL_ (some 5) rfl rfl Tryz.func91 (by kernel_rfl) rfl #[.string a0] rfl (by (try simp only [List.map_toArray, List.map_cons, List.map_nil]); first | done | rfl | (simp only [List.length_drop, List.length_take]; rfl)) ?_; (with_reducible refine (letterlockref2_PutText.calls k a0 t256 _ A2.out).mono ?_); rintro e w5 ⟨rfl, hb⟩; refine ⟨_, rfl, ?_⟩; have n0_ := Aside0.mk (below_step (by repeat (first | (with_reducible first | exact HB.out | apply below_alloc | apply pw_below_drewN | apply below_drew1) | exact HB.out)) hb); clear HB; have HB := n0_; clear n0_; (try clear hb); (try clear hb2); (try clear hk); (try clear hi)) | ((with_reducible refine gate_callee (f := 105) rfl ?_); refine goesL_ (some 7) rfl rfl Tryz.func105 (by kernel_rfl) rfl #[.string ((⟨#[116]⟩ : ByteArray) ++ t256)] rfl (by (try simp only [List.map_toArray, List.map_cons, List.map_nil]); first | done | rfl | (simp only [List.length_drop, List.length_take]; rfl)) ?_; (with_reducible refine (letterlockref3_made.calls k ((⟨#[116]⟩ : ByteArray) ++ t256) t257 t258 _ A4.out).mono ?_); rintro e w6 ⟨rfl, hb⟩; refine ⟨_, rfl, ?_⟩; have n0_ := Aside0.mk (below_step (by repeat (first | (with_reducible first | exact HB.out | apply below_alloc | apply pw_below_drewN | apply below_drew1) | exact HB.out)) hb); clear HB; have HB := n0_; clear n0_; (try clear hb); (try clear hb2); (try clear hk); (try clear hi)))
  go_ret2
  exact ⟨by first | rfl | (simp [errW_none, errW_some] <;> rfl) | (simp [*, errW_none, errW_some] <;> rfl), by repeat (first | (with_reducible first | exact HB.out | apply below_alloc | apply pw_below_drewN | apply below_drew1) | exact HB.out)⟩
 ·rw [if_neg c3] at H
  exact absurd H (by simp)
def letterlockref3_OfPair.f (k : Nat) (a0 : ByteArray) (a1 : ByteArray) : Option (ByteArray × Int) := (letterlockref3_two.f k (⟨#[112]⟩ : ByteArray) a0 a1).bind fun bt259 => (some (bt259.1, bt259.2))
set_option maxHeartbeats 8000000 in
set_option maxRecDepth 100000 in
theorem letterlockref3_OfPair.calls (k : Nat) (a0 : ByteArray) (a1 : ByteArray) (r1 : ByteArray) (r2 : Int) (w : World) (h : letterlockref3_OfPair.f k a0 a1 = some (r1, r2)) :
  Calls Tryz.prog 60 #[.string a0, .string a1] w fun e w' => e = .returned (.tuple #[.string r1, .int .i64 r2]) ∧ Below w.heap.size w w' := by
 have HB := Aside0.mk (Below.refl w.heap.size w)
 have H : ((letterlockref3_two.f k (⟨#[112]⟩ : ByteArray) a0 a1).bind fun bt259 => (some (bt259.1, bt259.2))) = some (r1, r2) := h
 clear h
 replace H := Option.bind_eq_some_iff.mp H
 obtain ⟨⟨t259, t260⟩, A30, H⟩ := H
 replace H : (some (t259, t260)) = some (r1, r2) := H
 have A3 := Aside0.mk A30
 clear A30
 simp only [Option.some.injEq, Prod.mk.injEq] at H
 obtain ⟨rfl, rfl⟩ := H
 go_enter Tryz.func60, Tryz.ntmps60
 go_wp2_with (first | ((with_reducible refine gate_callee (f := 106) rfl ?_); refine goesL_ (some 8) rfl rfl Tryz.func106 (by kernel_rfl) rfl #[.string (⟨#[112]⟩ : ByteArray), .string a0, .string a1] rfl (by (try simp only [List.map_toArray, List.map_cons, List.map_nil]); first | done | rfl | (simp only [List.length_drop, List.length_take]; rfl)) ?_; (with_reducible refine (letterlockref3_two.calls k (⟨#[112]⟩ : ByteArray) a0 a1 t259 t260 _ A3.out).mono ?_); rintro e w4 ⟨rfl, hb⟩; refine ⟨_, rfl, ?_⟩; have n0_ := Aside0.mk (below_step (by repeat (first | (with_reducible first | exact HB.out | apply below_alloc | apply pw_below_drewN | apply below_drew1) | exact HB.out)) hb); clear HB; have HB := n0_; clear n0_; (try clear hb); (try clear hb2); (try clear hk); (try clear hi)))
 go_ret2
 exact ⟨by first | rfl | (simp [errW_none, errW_some] <;> rfl) | (simp [*, errW_none, errW_some] <;> rfl), by repeat (first | (with_reducible first | exact HB.out | apply below_alloc | apply pw_below_drewN | apply below_drew1) | exact HB.out)⟩
def letterlockref3_OfHash.f (k : Nat) (a0 : ByteArray) : Option (ByteArray × Int) := (letterlockref3_one.f k (⟨#[104]⟩ : ByteArray) a0).bind fun bt261 => (some (bt261.1, bt261.2))
set_option maxHeartbeats 8000000 in
set_option maxRecDepth 100000 in
theorem letterlockref3_OfHash.calls (k : Nat) (a0 : ByteArray) (r1 : ByteArray) (r2 : Int) (w : World) (h : letterlockref3_OfHash.f k a0 = some (r1, r2)) :
  Calls Tryz.prog 104 #[.string a0] w fun e w' => e = .returned (.tuple #[.string r1, .int .i64 r2]) ∧ Below w.heap.size w w' := by
 have HB := Aside0.mk (Below.refl w.heap.size w)
 have H : ((letterlockref3_one.f k (⟨#[104]⟩ : ByteArray) a0).bind fun bt261 => (some (bt261.1, bt261.2))) = some (r1, r2) := h
 clear h
 replace H := Option.bind_eq_some_iff.mp H
 obtain ⟨⟨t261, t262⟩, A20, H⟩ := H
 replace H : (some (t261, t262)) = some (r1, r2) := H
 have A2 := Aside0.mk A20
 clear A20
 simp only [Option.some.injEq, Prod.mk.injEq] at H
 obtain ⟨rfl, rfl⟩ := H
 go_enter Tryz.func104, Tryz.ntmps104
 go_wp2_with (first | ((with_reducible refine gate_callee (f := 112) rfl ?_); refine goesL_ (some 5) rfl rfl Tryz.func112 (by kernel_rfl) rfl #[.string (⟨#[104]⟩ : ByteArray), .string a0] rfl (by (try simp only [List.map_toArray, List.map_cons, List.map_nil]); first | done | rfl | (simp only [List.length_drop, List.length_take]; rfl)) ?_; (with_reducible refine (letterlockref3_one.calls k (⟨#[104]⟩ : ByteArray) a0 t261 t262 _ A2.out).mono ?_); rintro e w3 ⟨rfl, hb⟩; refine ⟨_, rfl, ?_⟩; have n0_ := Aside0.mk (below_step (by repeat (first | (with_reducible first | exact HB.out | apply below_alloc | apply pw_below_drewN | apply below_drew1) | exact HB.out)) hb); clear HB; have HB := n0_; clear n0_; (try clear hb); (try clear hb2); (try clear hk); (try clear hi)))
 go_ret2
 exact ⟨by first | rfl | (simp [errW_none, errW_some] <;> rfl) | (simp [*, errW_none, errW_some] <;> rfl), by repeat (first | (with_reducible first | exact HB.out | apply below_alloc | apply pw_below_drewN | apply below_drew1) | exact HB.out)⟩
def letterlockref3_OfAtom.f (k : Nat) (a0 : Int) : Option (ByteArray) := (letterlockref2_Put.f k a0).bind fun t263 => (if 1 + t263.size ≤ 9223372036854775807 then (some ((⟨#[97]⟩ : ByteArray) ++ t263)) else (none))
set_option maxHeartbeats 8000000 in
set_option maxRecDepth 100000 in
theorem letterlockref3_OfAtom.calls (k : Nat) (a0 : Int) (r : ByteArray) (w : World) (h : letterlockref3_OfAtom.f k a0 = some r) :
  Calls Tryz.prog 107 #[.int .u64 a0] w fun e w' => e = .returned (.string r) ∧ Below w.heap.size w w' := by
 have HB := Aside0.mk (Below.refl w.heap.size w)
 have H : ((letterlockref2_Put.f k a0).bind fun t263 => (if 1 + t263.size ≤ 9223372036854775807 then (some ((⟨#[97]⟩ : ByteArray) ++ t263)) else (none))) = some r := h
 clear h
 replace H := Option.bind_eq_some_iff.mp H
 obtain ⟨t263, A20, H⟩ := H
 replace H : (if 1 + t263.size ≤ 9223372036854775807 then (some ((⟨#[97]⟩ : ByteArray) ++ t263)) else (none)) = some r := H
 have A2 := Aside0.mk A20
 clear A20
 by_cases c3 : 1 + t263.size ≤ 9223372036854775807
 ·rw [if_pos c3] at H
  have c3b0 := eq_true c3
  have c3b1 : decide (1 + t263.size ≤ 9223372036854775807) = true := decide_eq_true c3
  try have c3b2 : (9223372036854775807 < 1 + t263.size) = False := eq_false (Nat.not_lt.2 c3)
  obtain rfl := Option.some.inj H
  go_enter Tryz.func107, Tryz.ntmps107
  go_wp2_with (first | ((with_reducible refine gate_callee (f := 39) rfl ?_); refine goesL_ (some 4) rfl rfl Tryz.func39 (by kernel_rfl) rfl #[.int .u64 a0] rfl (by (try simp only [List.map_toArray, List.map_cons, List.map_nil]); first | done | rfl | (simp only [List.length_drop, List.length_take]; rfl)) ?_; (with_reducible refine (letterlockref2_Put.calls k a0 t263 _ A2.out).mono ?_); rintro e w4 ⟨rfl, hb⟩; refine ⟨_, rfl, ?_⟩; have n0_ := Aside0.mk (below_step (by repeat (first | (with_reducible first | exact HB.out | apply below_alloc | apply pw_below_drewN | apply below_drew1) | exact HB.out)) hb); clear HB; have HB := n0_; clear n0_; (try clear hb); (try clear hb2); (try clear hk); (try clear hi)))
  go_ret
  exact ⟨by first | rfl | (simp [errW_none, errW_some] <;> rfl) | (simp [*, errW_none, errW_some] <;> rfl), by repeat (first | (with_reducible first | exact HB.out | apply below_alloc | apply pw_below_drewN | apply below_drew1) | exact HB.out)⟩
 ·rw [if_neg c3] at H
  exact absurd H (by simp)
def letterlockref5_Secret.f (k : Nat) (a0 : ByteArray) (a1 : ByteArray) (a2 : Int) : Option (ByteArray × Int) := if a0.size + 1 ≤ 9223372036854775807 then (if (a0 ++ (⟨#[58]⟩ : ByteArray)).size + a1.size ≤ 9223372036854775807 then ((letterlockref3_OfText.f k ((a0 ++ (⟨#[58]⟩ : ByteArray)) ++ a1)).bind fun bt264 => (if bt264.2 = 0 then ((letterlockref3_OfAtom.f k a2).bind fun t266 => ((letterlockref3_OfPair.f k bt264.1 t266).bind fun bt267 => (if bt267.2 = 0 then ((letterlockref3_OfHash.f k bt267.1).bind fun bt269 => (some (bt269.1, bt269.2))) else (some ((⟨#[]⟩ : ByteArray), bt267.2))))) else (some ((⟨#[]⟩ : ByteArray), bt264.2)))) else (none)) else (none)
set_option maxHeartbeats 8000000 in
set_option maxRecDepth 100000 in
theorem letterlockref5_Secret.calls (k : Nat) (a0 : ByteArray) (a1 : ByteArray) (a2 : Int) (r1 : ByteArray) (r2 : Int) (w : World) (h : letterlockref5_Secret.f k a0 a1 a2 = some (r1, r2)) :
  Calls Tryz.prog 78 #[.string a0, .string a1, .int .u64 a2] w fun e w' => e = .returned (.tuple #[.string r1, .int .i64 r2]) ∧ Below w.heap.size w w' := by
 have HB := Aside0.mk (Below.refl w.heap.size w)
 have H : (if a0.size + 1 ≤ 9223372036854775807 then (if (a0 ++ (⟨#[58]⟩ : ByteArray)).size + a1.size ≤ 9223372036854775807 then ((letterlockref3_OfText.f k ((a0 ++ (⟨#[58]⟩ : ByteArray)) ++ a1)).bind fun bt264 => (if bt264.2 = 0 then ((letterlockref3_OfAtom.f k a2).bind fun t266 => ((letterlockref3_OfPair.f k bt264.1 t266).bind fun bt267 => (if bt267.2 = 0 then ((letterlockref3_OfHash.f k bt267.1).bind fun bt269 => (some (bt269.1, bt269.2))) else (some ((⟨#[]⟩ : ByteArray), bt267.2))))) else (some ((⟨#[]⟩ : ByteArray), bt264.2)))) else (none)) else (none)) = some (r1, r2) := h
 clear h
 by_cases c4 : a0.size + 1 ≤ 9223372036854775807
 ·rw [if_pos c4] at H
  have c4b0 := eq_true c4
  have c4b1 : decide (a0.size + 1 ≤ 9223372036854775807) = true := decide_eq_true c4
  try have c4b2 : (9223372036854775807 < a0.size + 1) = False := eq_false (Nat.not_lt.2 c4)
  by_cases c5 : (a0 ++ (⟨#[58]⟩ : ByteArray)).size + a1.size ≤ 9223372036854775807
  ·rw [if_pos c5] at H
   have c5b0 := eq_true c5
   have c5b1 : decide ((a0 ++ (⟨#[58]⟩ : ByteArray)).size + a1.size ≤ 9223372036854775807) = true := decide_eq_true c5
   try have c5b2 : (9223372036854775807 < (a0 ++ (⟨#[58]⟩ : ByteArray)).size + a1.size) = False := eq_false (Nat.not_lt.2 c5)
   replace H := Option.bind_eq_some_iff.mp H
   obtain ⟨⟨t264, t265⟩, A60, H⟩ := H
   replace H : (if t265 = 0 then ((letterlockref3_OfAtom.f k a2).bind fun t266 => ((letterlockref3_OfPair.f k t264 t266).bind fun bt267 => (if bt267.2 = 0 then ((letterlockref3_OfHash.f k bt267.1).bind fun bt269 => (some (bt269.1, bt269.2))) else (some ((⟨#[]⟩ : ByteArray), bt267.2))))) else (some ((⟨#[]⟩ : ByteArray), t265))) = some (r1, r2) := H
   have A6 := Aside0.mk A60
   clear A60
   by_cases c7 : t265 = 0
   ·rw [if_pos c7] at H
    have c7b0 : (t265 == 0) = true := beq_iff_eq.mpr c7
    have c7b1 : (t265 != 0) = false := bne_eq_false_iff_eq.mpr c7
    clear c7
    replace H := Option.bind_eq_some_iff.mp H
    obtain ⟨t266, A80, H⟩ := H
    replace H : ((letterlockref3_OfPair.f k t264 t266).bind fun bt267 => (if bt267.2 = 0 then ((letterlockref3_OfHash.f k bt267.1).bind fun bt269 => (some (bt269.1, bt269.2))) else (some ((⟨#[]⟩ : ByteArray), bt267.2)))) = some (r1, r2) := H
    have A8 := Aside0.mk A80
    clear A80
    replace H := Option.bind_eq_some_iff.mp H
    obtain ⟨⟨t267, t268⟩, A90, H⟩ := H
    replace H : (if t268 = 0 then ((letterlockref3_OfHash.f k t267).bind fun bt269 => (some (bt269.1, bt269.2))) else (some ((⟨#[]⟩ : ByteArray), t268))) = some (r1, r2) := H
    have A9 := Aside0.mk A90
    clear A90
    by_cases c10 : t268 = 0
    ·rw [if_pos c10] at H
     have c10b0 : (t268 == 0) = true := beq_iff_eq.mpr c10
     have c10b1 : (t268 != 0) = false := bne_eq_false_iff_eq.mpr c10
     clear c10
     replace H := Option.bind_eq_some_iff.mp H
     obtain ⟨⟨t269, t270⟩, A110, H⟩ := H
     replace H : (some (t269, t270)) = some (r1, r2) := H
     have A11 := Aside0.mk A110
     clear A110
     simp only [Option.some.injEq, Prod.mk.injEq] at H
     obtain ⟨rfl, rfl⟩ := H
     go_enter Tryz.func78, Tryz.ntmps78
     go_wp2_with (first | ((with_reducible refine gate_callee (f := 59) rfl ?_); refine goesL_ (some 16) rfl rfl Tryz.func59 (by kernel_rfl) rfl #[.string ((a0 ++ (⟨#[58]⟩ : ByteArray)) ++ a1)] rfl (by (try simp only [List.map_toArray, List.map_cons, List.map_nil]); first | done | rfl | (simp only [List.length_drop, List.length_take]; rfl)) ?_; (with_reducible refine (letterlockref3_OfText.calls k ((a0 ++ (⟨#[58]⟩ : ByteArray)) ++ a1) t264 t265 _ A6.out).mono ?_); rintro e w12 ⟨rfl, hb⟩; refine ⟨_, rfl, ?_⟩; have n0_ := Aside0.mk (below_step (by repeat (first | (with_reducible first | exact HB.out | apply below_alloc | apply pw_below_drewN | apply below_drew1) | exact HB.out)) hb); clear HB; have HB := n0_; clear n0_; (try clear hb); (try clear hb2); (try clear hk); (try clear hi)) | ((with_reducible refine gate_callee (f := 107) rfl ?_); refine goesL_ (some 25) rfl rfl Tryz.func107 (by kernel_rfl) rfl #[.int .u64 a2] rfl (by (try simp only [List.map_toArray, List.map_cons, List.map_nil]); first | done | rfl | (simp only [List.length_drop, List.length_take]; rfl)) ?_; (with_reducible refine (letterlockref3_OfAtom.calls k a2 t266 _ A8.out).mono ?_); rintro e w13 ⟨rfl, hb⟩; refine ⟨_, rfl, ?_⟩; have n0_ := Aside0.mk (below_step (by repeat (first | (with_reducible first | exact HB.out | apply below_alloc | apply pw_below_drewN | apply below_drew1) | exact HB.out)) hb); clear HB; have HB := n0_; clear n0_; (try clear hb); (try clear hb2); (try clear hk); (try clear hi)) | ((with_reducible refine gate_callee (f := 60) rfl ?_); refine goesL_ (some 26) rfl rfl Tryz.func60 (by kernel_rfl) rfl #[.string t264, .string t266] rfl (by (try simp only [List.map_toArray, List.map_cons, List.map_nil]); first | done | rfl | (simp only [List.length_drop, List.length_take]; rfl)) ?_; (with_reducible refine (letterlockref3_OfPair.calls k t264 t266 t267 t268 _ A9.out).mono ?_); rintro e w14 ⟨rfl, hb⟩; refine ⟨_, rfl, ?_⟩; have n0_ := Aside0.mk (below_step (by repeat (first | (with_reducible first | exact HB.out | apply below_alloc | apply pw_below_drewN | apply below_drew1) | exact HB.out)) hb); clear HB; have HB := n0_; clear n0_; (try clear hb); (try clear hb2); (try clear hk); (try clear hi)) | ((with_reducible refine gate_callee (f := 104) rfl ?_); refine goesL_ (some 33) rfl rfl Tryz.func104 (by kernel_rfl) rfl #[.string t267] rfl (by (try simp only [List.map_toArray, List.map_cons, List.map_nil]); first | done | rfl | (simp only [List.length_drop, List.length_take]; rfl)) ?_; (with_reducible refine (letterlockref3_OfHash.calls k t267 t269 t270 _ A11.out).mono ?_); rintro e w15 ⟨rfl, hb⟩; refine ⟨_, rfl, ?_⟩; have n0_ := Aside0.mk (below_step (by repeat (first | (with_reducible first | exact HB.out | apply below_alloc | apply pw_below_drewN | apply below_drew1) | exact HB.out)) hb); clear HB; have HB := n0_; clear n0_; (try clear hb); (try clear hb2); (try clear hk); (try clear hi)))
     go_ret2
     exact ⟨by first | rfl | (simp [errW_none, errW_some] <;> rfl) | (simp [*, errW_none, errW_some] <;> rfl), by repeat (first | (with_reducible first | exact HB.out | apply below_alloc | apply pw_below_drewN | apply below_drew1) | exact HB.out)⟩
    ·rw [if_neg c10] at H
     have c10b0 : (t268 == 0) = false := beq_eq_false_iff_ne.mpr c10
     have c10b1 : (t268 != 0) = true := bne_iff_ne.mpr c10
     simp only [Option.some.injEq, Prod.mk.injEq] at H
     obtain ⟨rfl, rfl⟩ := H
     go_enter Tryz.func78, Tryz.ntmps78
     go_wp2_with (first | ((with_reducible refine gate_callee (f := 59) rfl ?_); refine goesL_ (some 16) rfl rfl Tryz.func59 (by kernel_rfl) rfl #[.string ((a0 ++ (⟨#[58]⟩ : ByteArray)) ++ a1)] rfl (by (try simp only [List.map_toArray, List.map_cons, List.map_nil]); first | done | rfl | (simp only [List.length_drop, List.length_take]; rfl)) ?_; (with_reducible refine (letterlockref3_OfText.calls k ((a0 ++ (⟨#[58]⟩ : ByteArray)) ++ a1) t264 t265 _ A6.out).mono ?_); rintro e w16 ⟨rfl, hb⟩; refine ⟨_, rfl, ?_⟩; have n0_ := Aside0.mk (below_step (by repeat (first | (with_reducible first | exact HB.out | apply below_alloc | apply pw_below_drewN | apply below_drew1) | exact HB.out)) hb); clear HB; have HB := n0_; clear n0_; (try clear hb); (try clear hb2); (try clear hk); (try clear hi)) | ((with_reducible refine gate_callee (f := 107) rfl ?_); refine goesL_ (some 25) rfl rfl Tryz.func107 (by kernel_rfl) rfl #[.int .u64 a2] rfl (by (try simp only [List.map_toArray, List.map_cons, List.map_nil]); first | done | rfl | (simp only [List.length_drop, List.length_take]; rfl)) ?_; (with_reducible refine (letterlockref3_OfAtom.calls k a2 t266 _ A8.out).mono ?_); rintro e w17 ⟨rfl, hb⟩; refine ⟨_, rfl, ?_⟩; have n0_ := Aside0.mk (below_step (by repeat (first | (with_reducible first | exact HB.out | apply below_alloc | apply pw_below_drewN | apply below_drew1) | exact HB.out)) hb); clear HB; have HB := n0_; clear n0_; (try clear hb); (try clear hb2); (try clear hk); (try clear hi)) | ((with_reducible refine gate_callee (f := 60) rfl ?_); refine goesL_ (some 26) rfl rfl Tryz.func60 (by kernel_rfl) rfl #[.string t264, .string t266] rfl (by (try simp only [List.map_toArray, List.map_cons, List.map_nil]); first | done | rfl | (simp only [List.length_drop, List.length_take]; rfl)) ?_; (with_reducible refine (letterlockref3_OfPair.calls k t264 t266 t267 t268 _ A9.out).mono ?_); rintro e w18 ⟨rfl, hb⟩; refine ⟨_, rfl, ?_⟩; have n0_ := Aside0.mk (below_step (by repeat (first | (with_reducible first | exact HB.out | apply below_alloc | apply pw_below_drewN | apply below_drew1) | exact HB.out)) hb); clear HB; have HB := n0_; clear n0_; (try clear hb); (try clear hb2); (try clear hk); (try clear hi)))
     go_ret2
     exact ⟨by first | rfl | (simp [errW_none, errW_some] <;> rfl) | (simp [*, errW_none, errW_some] <;> rfl), by repeat (first | (with_reducible first | exact HB.out | apply below_alloc | apply pw_below_drewN | apply below_drew1) | exact HB.out)⟩
   ·rw [if_neg c7] at H
    have c7b0 : (t265 == 0) = false := beq_eq_false_iff_ne.mpr c7
    have c7b1 : (t265 != 0) = true := bne_iff_ne.mpr c7
    simp only [Option.some.injEq, Prod.mk.injEq] at H
    obtain ⟨rfl, rfl⟩ := H
    go_enter Tryz.func78, Tryz.ntmps78
    go_wp2_with (first | ((with_reducible refine gate_callee (f := 59) rfl ?_); refine goesL_ (some 16) rfl rfl Tryz.func59 (by kernel_rfl) rfl #[.string ((a0 ++ (⟨#[58]⟩ : ByteArray)) ++ a1)] rfl (by (try simp only [List.map_toArray, List.map_cons, List.map_nil]); first | done | rfl | (simp only [List.length_drop, List.length_take]; rfl)) ?_; (with_reducible refine (letterlockref3_OfText.calls k ((a0 ++ (⟨#[58]⟩ : ByteArray)) ++ a1) t264 t265 _ A6.out).mono ?_); rintro e w19 ⟨rfl, hb⟩; refine ⟨_, rfl, ?_⟩; have n0_ := Aside0.mk (below_step (by repeat (first | (with_reducible first | exact HB.out | apply below_alloc | apply pw_below_drewN | apply below_drew1) | exact HB.out)) hb); clear HB; have HB := n0_; clear n0_; (try clear hb); (try clear hb2); (try clear hk); (try clear hi)))
    go_ret2
    exact ⟨by first | rfl | (simp [errW_none, errW_some] <;> rfl) | (simp [*, errW_none, errW_some] <;> rfl), by repeat (first | (with_reducible first | exact HB.out | apply below_alloc | apply pw_below_drewN | apply below_drew1) | exact HB.out)⟩
  ·rw [if_neg c5] at H
   exact absurd H (by simp)
 ·rw [if_neg c4] at H
  exact absurd H (by simp)
mutual
def letterlockref6_Back.j0 : Nat → ByteArray → Int → Bool → Option (ByteArray × Int)
 | 0, _, _, _ => none
 | k + 1, x0, x1, x14 => if x14 = true then (some ((⟨#[]⟩ : ByteArray), 1)) else (letterlockref6_Back.l0 k x0 x1)
def letterlockref6_Back.l0 : Nat → ByteArray → Int → Option (ByteArray × Int)
 | 0, _, _ => none
 | k + 1, x0, x1 => if x1 > 0 then ((letterlockref3_OfHash.f k x0).bind fun bt272 => (if bt272.2 = 0 then (letterlockref6_Back.l0 k bt272.1 (wrap64 (x1 - 1))) else (some ((⟨#[]⟩ : ByteArray), bt272.2)))) else (some (x0, 0))
end
def letterlockref6_Back.f (k : Nat) (a0 : ByteArray) (a1 : Int) : Option (ByteArray × Int) := (letterlockref3_Right.f k a0).bind fun t271 => (if t271 = true then (letterlockref6_Back.j0 k a0 a1 (decide (a1 < 0))) else (letterlockref6_Back.j0 k a0 a1 true))
set_option maxHeartbeats 8000000 in
set_option maxRecDepth 100000 in
theorem letterlockref6_Back.calls (k : Nat) (a0 : ByteArray) (a1 : Int) (r1 : ByteArray) (r2 : Int) (w : World) (h : letterlockref6_Back.f k a0 a1 = some (r1, r2)) :
  Calls Tryz.prog 74 #[.string a0, .int .i64 a1] w fun e w' => e = .returned (.tuple #[.string r1, .int .i64 r2]) ∧ Below w.heap.size w w' := by
 have HB := Aside0.mk (Below.refl w.heap.size w)
 have H : ((letterlockref3_Right.f k a0).bind fun t271 => (if t271 = true then (letterlockref6_Back.j0 k a0 a1 (decide (a1 < 0))) else (letterlockref6_Back.j0 k a0 a1 true))) = some (r1, r2) := h
 clear h
 have HC3 := Aside0.mk H
 clear H
 go_enter Tryz.func74, Tryz.ntmps74
 go_upto_region 1 with (fail)
 go_cut [14] (fun v14 wc => ∃ (kq : Nat) (x14_2 : Bool), v14 = .bool x14_2 ∧ Aside0 (letterlockref6_Back.j0 kq a0 a1 x14_2 = some (r1, r2)) ∧ Aside0 (kq ≤ k) ∧ Aside0 (Below w.heap.size w wc))
 case first =>
  have H := HC3.out
  clear HC3
  replace H := Option.bind_eq_some_iff.mp H
  obtain ⟨t271, A40, H⟩ := H
  replace H : (if t271 = true then (letterlockref6_Back.j0 k a0 a1 (decide (a1 < 0))) else (letterlockref6_Back.j0 k a0 a1 true)) = some (r1, r2) := H
  have A4 := Aside0.mk A40
  clear A40
  by_cases c5 : t271 = true
  ·subst c5
   have H1 : (letterlockref6_Back.j0 k a0 a1 (decide (a1 < 0))) = some (r1, r2) := by rw [if_pos rfl] at H; exact H
   clear H
   have H := H1
   clear H1
   have H' := Aside0.mk H
   clear H
   go_wp2_with (first | ((with_reducible refine gate_callee (f := 57) rfl ?_); refine goesL_ (some 9) rfl rfl Tryz.func57 (by kernel_rfl) rfl #[.string a0] rfl (by (try simp only [List.map_toArray, List.map_cons, List.map_nil]); first | done | rfl | (simp only [List.length_drop, List.length_take]; rfl)) ?_; (with_reducible refine (letterlockref3_Right.calls k a0 true _ A4.out).mono ?_); rintro e w6 ⟨rfl, hb⟩; refine ⟨_, rfl, ?_⟩; have n0_ := Aside0.mk (below_step (by repeat (first | (with_reducible first | exact HB.out | apply below_alloc | apply pw_below_drewN | apply below_drew1) | exact HB.out)) hb); clear HB; have HB := n0_; clear n0_; (try clear hb); (try clear hb2); (try clear hk); (try clear hi)))
   go_meet
   case rel => exact ⟨_, (decide (a1 < 0)), (by first | rfl | (simp; done) | (simp [*]; done)), H', ⟨by first | omega | exact Nat.le_refl _⟩, ⟨by repeat (first | (with_reducible first | exact HB.out | apply below_alloc | apply pw_below_drewN | apply below_drew1) | exact HB.out)⟩⟩
  ·replace c5 := Bool.eq_false_iff.mpr c5
   subst c5
   have H1 : (letterlockref6_Back.j0 k a0 a1 true) = some (r1, r2) := by rw [if_neg (show ¬ (false = true) by decide)] at H; exact H
   clear H
   have H := H1
   clear H1
   have H' := Aside0.mk H
   clear H
   go_wp2_with (first | ((with_reducible refine gate_callee (f := 57) rfl ?_); refine goesL_ (some 9) rfl rfl Tryz.func57 (by kernel_rfl) rfl #[.string a0] rfl (by (try simp only [List.map_toArray, List.map_cons, List.map_nil]); first | done | rfl | (simp only [List.length_drop, List.length_take]; rfl)) ?_; (with_reducible refine (letterlockref3_Right.calls k a0 false _ A4.out).mono ?_); rintro e w7 ⟨rfl, hb⟩; refine ⟨_, rfl, ?_⟩; have n0_ := Aside0.mk (below_step (by repeat (first | (with_reducible first | exact HB.out | apply below_alloc | apply pw_below_drewN | apply below_drew1) | exact HB.out)) hb); clear HB; have HB := n0_; clear n0_; (try clear hb); (try clear hb2); (try clear hk); (try clear hi)))
   go_meet
   case rel => exact ⟨_, (true), (by first | rfl | (simp; done) | (simp [*]; done)), H', ⟨by first | omega | exact Nat.le_refl _⟩, ⟨by repeat (first | (with_reducible first | exact HB.out | apply below_alloc | apply pw_below_drewN | apply below_drew1) | exact HB.out)⟩⟩
 case rest =>
  clear HC3
  try clear p2
  try clear c5
  try clear c7
  obtain ⟨kq, x14_2, rfl, HA, HJ2, HB⟩ := hcut
  cases kq with
  | zero => exact absurd HA.out (by simp [letterlockref6_Back.j0])
  | succ kj2 =>
   have H := HA.out
   clear HA
   simp only [letterlockref6_Back.j0] at H
   by_cases c8 : x14_2 = true
   ·subst c8
    have H1 : (some ((⟨#[]⟩ : ByteArray), 1)) = some (r1, r2) := by rw [if_pos rfl] at H; exact H
    clear H
    have H := H1
    clear H1
    simp only [Option.some.injEq, Prod.mk.injEq] at H
    obtain ⟨rfl, rfl⟩ := H
    go_wp2
    go_ret2
    exact ⟨by first | rfl | (simp [errW_none, errW_some] <;> rfl) | (simp [*, errW_none, errW_some] <;> rfl), by repeat (first | (with_reducible first | exact HB.out | apply below_alloc | apply pw_below_drewN | apply below_drew1) | exact HB.out)⟩
   ·replace c8 := Bool.eq_false_iff.mpr c8
    subst c8
    have H1 : (letterlockref6_Back.l0 kj2 a0 a1) = some (r1, r2) := by rw [if_neg (show ¬ (false = true) by decide)] at H; exact H
    clear H
    have H := H1
    clear H1
    have H' := Aside0.mk H
    clear H
    go_wp2
    go_loopg [0, 1] kj2 (fun kq v0 v1 w' => ∃ (x0_2 : ByteArray) (x1_2 : Int), v0 = .string x0_2 ∧ v1 = .int .i64 x1_2 ∧ Aside0 (letterlockref6_Back.l0 kq x0_2 x1_2 = some (r1, r2)) ∧ Aside0 (kq ≤ kj2) ∧ Aside0 (Below w.heap.size w w'))
    case atStart => exact ⟨(a0), (a1), (by first | rfl | (simp; done) | (simp [*]; done)), (by first | rfl | (simp; done) | (simp [*]; done)), H', ⟨Nat.le_refl _⟩, ⟨by repeat (first | (with_reducible first | exact HB.out | apply below_alloc | apply pw_below_drewN | apply below_drew1) | exact HB.out)⟩⟩
    case round =>
     clear H'
     try clear p2
     try clear c5
     try clear c7
     try clear c8
     try clear p2
     obtain ⟨x0_2, x1_2, rfl, rfl, HA, HK2, HB⟩ := hrel
     cases gk with
     | zero => exact absurd HA.out (by simp [letterlockref6_Back.l0])
     | succ k2 =>
      have H := HA.out
      clear HA
      simp only [letterlockref6_Back.l0] at H
      by_cases c9 : x1_2 > 0
      ·rw [if_pos c9] at H
       have c9b0 : decide (0 < x1_2) = true := decide_eq_true c9
       clear c9
       replace H := Option.bind_eq_some_iff.mp H
       obtain ⟨⟨t272, t273⟩, A100, H⟩ := H
       replace H : (if t273 = 0 then (letterlockref6_Back.l0 k2 t272 (wrap64 (x1_2 - 1))) else (some ((⟨#[]⟩ : ByteArray), t273))) = some (r1, r2) := H
       have A10 := Aside0.mk A100
       clear A100
       by_cases c11 : t273 = 0
       ·rw [if_pos c11] at H
        have c11b0 : (t273 == 0) = true := beq_iff_eq.mpr c11
        have c11b1 : (t273 != 0) = false := bne_eq_false_iff_eq.mpr c11
        clear c11
        have H' := Aside0.mk H
        clear H
        go_wp2_with (first | ((with_reducible refine gate_callee (f := 104) rfl ?_); refine goesL_ (some 21) rfl rfl Tryz.func104 (by kernel_rfl) rfl #[.string x0_2] rfl (by (try simp only [List.map_toArray, List.map_cons, List.map_nil]); first | done | rfl | (simp only [List.length_drop, List.length_take]; rfl)) ?_; (with_reducible refine (letterlockref3_OfHash.calls k2 x0_2 t272 t273 _ A10.out).mono ?_); rintro e w12 ⟨rfl, hb⟩; refine ⟨_, rfl, ?_⟩; have n0_ := Aside0.mk (below_step (by repeat (first | (with_reducible first | exact HB.out | apply below_alloc | apply pw_below_drewN | apply below_drew1) | exact HB.out)) hb); clear HB; have HB := n0_; clear n0_; (try clear hb); (try clear hb2); (try clear hk); (try clear hi)))
        go_roundg k2
        case measure => have := HJ2.out; have := HK2.out; omega
        case rel => exact ⟨(t272), (wrap64 (x1_2 - 1)), (by first | rfl | (simp; done) | (simp [*]; done)), (by first | rfl | (simp; done) | (simp [*]; done)), H', ⟨by have := HJ2.out; have := HK2.out; omega⟩, ⟨by repeat (first | (with_reducible first | exact HB.out | apply below_alloc | apply pw_below_drewN | apply below_drew1) | exact HB.out)⟩⟩
       ·rw [if_neg c11] at H
        have c11b0 : (t273 == 0) = false := beq_eq_false_iff_ne.mpr c11
        have c11b1 : (t273 != 0) = true := bne_iff_ne.mpr c11
        simp only [Option.some.injEq, Prod.mk.injEq] at H
        obtain ⟨rfl, rfl⟩ := H
        go_wp2_with (first | ((with_reducible refine gate_callee (f := 104) rfl ?_); refine goesL_ (some 21) rfl rfl Tryz.func104 (by kernel_rfl) rfl #[.string x0_2] rfl (by (try simp only [List.map_toArray, List.map_cons, List.map_nil]); first | done | rfl | (simp only [List.length_drop, List.length_take]; rfl)) ?_; (with_reducible refine (letterlockref3_OfHash.calls k2 x0_2 t272 t273 _ A10.out).mono ?_); rintro e w13 ⟨rfl, hb⟩; refine ⟨_, rfl, ?_⟩; have n0_ := Aside0.mk (below_step (by repeat (first | (with_reducible first | exact HB.out | apply below_alloc | apply pw_below_drewN | apply below_drew1) | exact HB.out)) hb); clear HB; have HB := n0_; clear n0_; (try clear hb); (try clear hb2); (try clear hk); (try clear hi)))
        go_ret2
        exact ⟨by first | rfl | (simp [errW_none, errW_some] <;> rfl) | (simp [*, errW_none, errW_some] <;> rfl), by repeat (first | (with_reducible first | exact HB.out | apply below_alloc | apply pw_below_drewN | apply below_drew1) | exact HB.out)⟩
      ·rw [if_neg c9] at H
       have c9b0 : decide (0 < x1_2) = false := decide_eq_false c9
       clear c9
       simp only [Option.some.injEq, Prod.mk.injEq] at H
       obtain ⟨rfl, rfl⟩ := H
       go_wp2
       go_ret2
       exact ⟨by first | rfl | (simp [errW_none, errW_some] <;> rfl) | (simp [*, errW_none, errW_some] <;> rfl), by repeat (first | (with_reducible first | exact HB.out | apply below_alloc | apply pw_below_drewN | apply below_drew1) | exact HB.out)⟩
def letterlockref6_State.f (k : Nat) (a0 : ByteArray) (a1 : Int) : Option (ByteArray × Int) := (letterlockref3_Right.f k a0).bind fun t274 => (if t274 = true then (if a1 < 0 then (some ((⟨#[]⟩ : ByteArray), 9)) else (if a1 > 7 then (some ((⟨#[]⟩ : ByteArray), 9)) else ((letterlockref6_Back.f k a0 (wrap64 (7 - a1))).bind fun bt275 => (some (bt275.1, bt275.2))))) else (some ((⟨#[]⟩ : ByteArray), 1)))
set_option maxHeartbeats 8000000 in
set_option maxRecDepth 100000 in
theorem letterlockref6_State.calls (k : Nat) (a0 : ByteArray) (a1 : Int) (r1 : ByteArray) (r2 : Int) (w : World) (h : letterlockref6_State.f k a0 a1 = some (r1, r2)) :
  Calls Tryz.prog 32 #[.string a0, .int .i64 a1] w fun e w' => e = .returned (.tuple #[.string r1, .int .i64 r2]) ∧ Below w.heap.size w w' := by
 have HB := Aside0.mk (Below.refl w.heap.size w)
 have H : ((letterlockref3_Right.f k a0).bind fun t274 => (if t274 = true then (if a1 < 0 then (some ((⟨#[]⟩ : ByteArray), 9)) else (if a1 > 7 then (some ((⟨#[]⟩ : ByteArray), 9)) else ((letterlockref6_Back.f k a0 (wrap64 (7 - a1))).bind fun bt275 => (some (bt275.1, bt275.2))))) else (some ((⟨#[]⟩ : ByteArray), 1)))) = some (r1, r2) := h
 clear h
 replace H := Option.bind_eq_some_iff.mp H
 obtain ⟨t274, A30, H⟩ := H
 replace H : (if t274 = true then (if a1 < 0 then (some ((⟨#[]⟩ : ByteArray), 9)) else (if a1 > 7 then (some ((⟨#[]⟩ : ByteArray), 9)) else ((letterlockref6_Back.f k a0 (wrap64 (7 - a1))).bind fun bt275 => (some (bt275.1, bt275.2))))) else (some ((⟨#[]⟩ : ByteArray), 1))) = some (r1, r2) := H
 have A3 := Aside0.mk A30
 clear A30
 by_cases c4 : t274 = true
 ·subst c4
  have H1 : (if a1 < 0 then (some ((⟨#[]⟩ : ByteArray), 9)) else (if a1 > 7 then (some ((⟨#[]⟩ : ByteArray), 9)) else ((letterlockref6_Back.f k a0 (wrap64 (7 - a1))).bind fun bt275 => (some (bt275.1, bt275.2))))) = some (r1, r2) := by rw [if_pos rfl] at H; exact H
  clear H
  have H := H1
  clear H1
  by_cases c5 : a1 < 0
  ·rw [if_pos c5] at H
   have c5b0 : decide (a1 < 0) = true := decide_eq_true c5
   clear c5
   simp only [Option.some.injEq, Prod.mk.injEq] at H
   obtain ⟨rfl, rfl⟩ := H
   go_enter Tryz.func32, Tryz.ntmps32
   go_wp2_with (first | ((with_reducible refine gate_callee (f := 57) rfl ?_); refine goesL_ (some 7) rfl rfl Tryz.func57 (by kernel_rfl) rfl #[.string a0] rfl (by (try simp only [List.map_toArray, List.map_cons, List.map_nil]); first | done | rfl | (simp only [List.length_drop, List.length_take]; rfl)) ?_; (with_reducible refine (letterlockref3_Right.calls k a0 true _ A3.out).mono ?_); rintro e w6 ⟨rfl, hb⟩; refine ⟨_, rfl, ?_⟩; have n0_ := Aside0.mk (below_step (by repeat (first | (with_reducible first | exact HB.out | apply below_alloc | apply pw_below_drewN | apply below_drew1) | exact HB.out)) hb); clear HB; have HB := n0_; clear n0_; (try clear hb); (try clear hb2); (try clear hk); (try clear hi)))
   go_ret2
   exact ⟨by first | rfl | (simp [errW_none, errW_some] <;> rfl) | (simp [*, errW_none, errW_some] <;> rfl), by repeat (first | (with_reducible first | exact HB.out | apply below_alloc | apply pw_below_drewN | apply below_drew1) | exact HB.out)⟩
  ·rw [if_neg c5] at H
   have c5b0 : decide (a1 < 0) = false := decide_eq_false c5
   clear c5
   by_cases c7 : a1 > 7
   ·rw [if_pos c7] at H
    have c7b0 : decide (7 < a1) = true := decide_eq_true c7
    clear c7
    simp only [Option.some.injEq, Prod.mk.injEq] at H
    obtain ⟨rfl, rfl⟩ := H
    go_enter Tryz.func32, Tryz.ntmps32
    go_wp2_with (first | ((with_reducible refine gate_callee (f := 57) rfl ?_); refine goesL_ (some 7) rfl rfl Tryz.func57 (by kernel_rfl) rfl #[.string a0] rfl (by (try simp only [List.map_toArray, List.map_cons, List.map_nil]); first | done | rfl | (simp only [List.length_drop, List.length_take]; rfl)) ?_; (with_reducible refine (letterlockref3_Right.calls k a0 true _ A3.out).mono ?_); rintro e w8 ⟨rfl, hb⟩; refine ⟨_, rfl, ?_⟩; have n0_ := Aside0.mk (below_step (by repeat (first | (with_reducible first | exact HB.out | apply below_alloc | apply pw_below_drewN | apply below_drew1) | exact HB.out)) hb); clear HB; have HB := n0_; clear n0_; (try clear hb); (try clear hb2); (try clear hk); (try clear hi)))
    go_ret2
    exact ⟨by first | rfl | (simp [errW_none, errW_some] <;> rfl) | (simp [*, errW_none, errW_some] <;> rfl), by repeat (first | (with_reducible first | exact HB.out | apply below_alloc | apply pw_below_drewN | apply below_drew1) | exact HB.out)⟩
   ·rw [if_neg c7] at H
    have c7b0 : decide (7 < a1) = false := decide_eq_false c7
    clear c7
    replace H := Option.bind_eq_some_iff.mp H
    obtain ⟨⟨t275, t276⟩, A90, H⟩ := H
    replace H : (some (t275, t276)) = some (r1, r2) := H
    have A9 := Aside0.mk A90
    clear A90
    simp only [Option.some.injEq, Prod.mk.injEq] at H
    obtain ⟨rfl, rfl⟩ := H
    go_enter Tryz.func32, Tryz.ntmps32
    go_wp2_with (first | ((with_reducible refine gate_callee (f := 57) rfl ?_); refine goesL_ (some 7) rfl rfl Tryz.func57 (by kernel_rfl) rfl #[.string a0] rfl (by (try simp only [List.map_toArray, List.map_cons, List.map_nil]); first | done | rfl | (simp only [List.length_drop, List.length_take]; rfl)) ?_; (with_reducible refine (letterlockref3_Right.calls k a0 true _ A3.out).mono ?_); rintro e w10 ⟨rfl, hb⟩; refine ⟨_, rfl, ?_⟩; have n0_ := Aside0.mk (below_step (by repeat (first | (with_reducible first | exact HB.out | apply below_alloc | apply pw_below_drewN | apply below_drew1) | exact HB.out)) hb); clear HB; have HB := n0_; clear n0_; (try clear hb); (try clear hb2); (try clear hk); (try clear hi)) | ((with_reducible refine gate_callee (f := 74) rfl ?_); refine goesL_ (some 18) rfl rfl Tryz.func74 (by kernel_rfl) rfl #[.string a0, .int .i64 (wrap64 (7 - a1))] rfl (by (try simp only [List.map_toArray, List.map_cons, List.map_nil]); first | done | rfl | (simp only [List.length_drop, List.length_take]; rfl)) ?_; (with_reducible refine (letterlockref6_Back.calls k a0 (wrap64 (7 - a1)) t275 t276 _ A9.out).mono ?_); rintro e w11 ⟨rfl, hb⟩; refine ⟨_, rfl, ?_⟩; have n0_ := Aside0.mk (below_step (by repeat (first | (with_reducible first | exact HB.out | apply below_alloc | apply pw_below_drewN | apply below_drew1) | exact HB.out)) hb); clear HB; have HB := n0_; clear n0_; (try clear hb); (try clear hb2); (try clear hk); (try clear hi)))
    go_ret2
    exact ⟨by first | rfl | (simp [errW_none, errW_some] <;> rfl) | (simp [*, errW_none, errW_some] <;> rfl), by repeat (first | (with_reducible first | exact HB.out | apply below_alloc | apply pw_below_drewN | apply below_drew1) | exact HB.out)⟩
 ·replace c4 := Bool.eq_false_iff.mpr c4
  subst c4
  have H1 : (some ((⟨#[]⟩ : ByteArray), 1)) = some (r1, r2) := by rw [if_neg (show ¬ (false = true) by decide)] at H; exact H
  clear H
  have H := H1
  clear H1
  simp only [Option.some.injEq, Prod.mk.injEq] at H
  obtain ⟨rfl, rfl⟩ := H
  go_enter Tryz.func32, Tryz.ntmps32
  go_wp2_with (first | ((with_reducible refine gate_callee (f := 57) rfl ?_); refine goesL_ (some 7) rfl rfl Tryz.func57 (by kernel_rfl) rfl #[.string a0] rfl (by (try simp only [List.map_toArray, List.map_cons, List.map_nil]); first | done | rfl | (simp only [List.length_drop, List.length_take]; rfl)) ?_; (with_reducible refine (letterlockref3_Right.calls k a0 false _ A3.out).mono ?_); rintro e w12 ⟨rfl, hb⟩; refine ⟨_, rfl, ?_⟩; have n0_ := Aside0.mk (below_step (by repeat (first | (with_reducible first | exact HB.out | apply below_alloc | apply pw_below_drewN | apply below_drew1) | exact HB.out)) hb); clear HB; have HB := n0_; clear n0_; (try clear hb); (try clear hb2); (try clear hk); (try clear hi)))
  go_ret2
  exact ⟨by first | rfl | (simp [errW_none, errW_some] <;> rfl) | (simp [*, errW_none, errW_some] <;> rfl), by repeat (first | (with_reducible first | exact HB.out | apply below_alloc | apply pw_below_drewN | apply below_drew1) | exact HB.out)⟩
end Go.Proofs.YtphehoidkmficaaGreatDoor.PA
end
section

namespace Go.Proofs.YtphehoidkmficaaGreatDoor.PA
open Go.RowKit Go.Proofs.YtphehoidkmficaaGreatDoorW.PrintWords Go.Proofs.YtphehoidkmficaaGreatDoorW.PrintLast Go.Proofs.YtphehoidkmficaaGreatDoorW.PrintMore
attribute [local go_sem] max2_int min2_int max_two min_two max_three min_three max_four min_four   -- for this text's walks alone
set_option linter.unusedVariables false
set_option linter.unusedSimpArgs false
def letterlocklaw17_pick.f (a0 : Int) (a1 : Int) : Option (Int) := if a0 < 0 then (if a1 = 0 then (none) else (some (Int.tmod (wrap64 (-(wrap64 (a0 + 1)))) a1))) else (if a1 = 0 then (none) else (some (Int.tmod a0 a1)))
set_option maxHeartbeats 8000000 in
set_option maxRecDepth 100000 in
theorem letterlocklaw17_pick.calls (a0 : Int) (a1 : Int) (r : Int) (w : World) (h : letterlocklaw17_pick.f a0 a1 = some r) :
  Calls Tryz.prog 22 #[.int .i64 a0, .int .i64 a1] w fun e w' => e = .returned (.int .i64 r) ∧ Drawn0 w w' := by
 have H : (if a0 < 0 then (if a1 = 0 then (none) else (some (Int.tmod (wrap64 (-(wrap64 (a0 + 1)))) a1))) else (if a1 = 0 then (none) else (some (Int.tmod a0 a1)))) = some r := h
 clear h
 by_cases c3 : a0 < 0
 ·rw [if_pos c3] at H
  have c3b0 : decide (a0 < 0) = true := decide_eq_true c3
  clear c3
  by_cases c4 : a1 = 0
  ·rw [if_pos c4] at H
   exact absurd H (by simp)
  ·rw [if_neg c4] at H
   have c4b0 : (a1 == 0) = false := beq_eq_false_iff_ne.mpr c4
   have c4b1 : (a1 != 0) = true := bne_iff_ne.mpr c4
   obtain rfl := Option.some.inj H
   go_enter Tryz.func22, Tryz.ntmps22
   go_wp2
   go_ret
   exact ⟨by first | rfl | (simp; done) | (simp [*]; done), by repeat (first | exact Drawn0.refl _ | apply Drawn0.step)⟩
 ·rw [if_neg c3] at H
  have c3b0 : decide (a0 < 0) = false := decide_eq_false c3
  clear c3
  by_cases c5 : a1 = 0
  ·rw [if_pos c5] at H
   exact absurd H (by simp)
  ·rw [if_neg c5] at H
   have c5b0 : (a1 == 0) = false := beq_eq_false_iff_ne.mpr c5
   have c5b1 : (a1 != 0) = true := bne_iff_ne.mpr c5
   obtain rfl := Option.some.inj H
   go_enter Tryz.func22, Tryz.ntmps22
   go_wp2
   go_ret
   exact ⟨by first | rfl | (simp; done) | (simp [*]; done), by repeat (first | exact Drawn0.refl _ | apply Drawn0.step)⟩
end Go.Proofs.YtphehoidkmficaaGreatDoor.PA
end
section

namespace Go.Proofs.YtphehoidkmficaaGreatDoor.Ref
open Go.RowKit Go.Proofs.YtphehoidkmficaaGreatDoor Go.Proofs.YtphehoidkmficaaGreatDoor.PA Go.Proofs.YtphehoidkmficaaGreatDoorW.PrintWords Go.Proofs.YtphehoidkmficaaGreatDoorW.PrintLast
set_option linter.unusedVariables false
theorem nums_of (l : List Int) : strOfNums l = ofBytes (l.map fun n => UInt8.ofNat n.toNat) := bs_inj (by rw [nums_bytes, bytes_ofBytes])
theorem u8_mod (n : Nat) : UInt8.ofNat (n % 256) = UInt8.ofNat n := UInt8.toNat_inj.1 (by rw [UInt8.toNat_ofNat', UInt8.toNat_ofNat']; omega)
theorem beBytes_bits {n : Nat} (h : n < 18446744073709551616) : (beBytes n).length = (Lib.bitLen n + 7) / 8 := by
 induction n using Nat.strongRecOn with
 | _ n ih =>
  by_cases h0 : n = 0
  ·subst h0
   rw [beBytes_zero]
   rfl
  by_cases h1 : n < 256
  ·have h2 := Lib.bitLen_le8 ⟨n, h1⟩
   have h3 := Lib.bitLen_half n h0 (by omega)
   have h2 : Lib.bitLen n ≤ 8 := h2
   rw [beBytes_pos h0, show n / 256 = 0 from by omega, beBytes_zero]
   simp only [List.nil_append, List.length_singleton]
   omega
  ·have h2 := Lib.bitLen_shift8 n (by omega) h
   have h3 := ih (n / 256) (by omega) (by omega)
   rw [beBytes_pos h0, List.length_append, h3, List.length_singleton]
   omega
theorem put_loop (i x : Nat) (h : Int) (zs tl : List Int) (hz : zs.length = i) (hx : (beBytes x).length = i) (hi : i ≤ 8) :
  Ev (fun k => wire_Put.l0 k (x : Int) (h :: (zs ++ tl)) (i : Int)) (strOfNums (h :: ((beBytes x).map (fun c => (c.toNat : Int)) ++ tl))) := by
 induction i generalizing x zs tl with
 | zero =>
  obtain rfl := List.length_eq_zero_iff.1 hz
  have : beBytes x = [] := List.length_eq_zero_iff.1 hx
  rw [this]
  refine Ev.step (fun _ => rfl) (Ev.neg (by simp) (Ev.now _))
 | succ i ih =>
  have hx0 : x ≠ 0 := by rintro rfl; rw [beBytes_zero] at hx; simp at hx
  rw [beBytes_pos hx0] at hx
  simp only [List.length_append, List.length_singleton, Nat.add_right_cancel_iff] at hx
  obtain ⟨ys, z, rfl⟩ : ∃ ys z, zs = ys ++ [z] := ⟨zs.dropLast, zs.getLast (by rintro rfl; simp at hz), (List.dropLast_concat_getLast _).symm⟩
  simp only [List.length_append, List.length_singleton, Nat.add_right_cancel_iff] at hz
  refine Ev.step (fun _ => rfl) (Ev.pos (by omega) (Ev.pos (by omega) (Ev.pos (by simp only [List.length_cons, List.length_append, hz]; omega) ?_)))
  have h1 : (h :: (ys ++ [z] ++ tl)).set (((i + 1 : Nat) : Int)).toNat ((x : Int) % 256) = h :: (ys ++ ((x : Int) % 256 :: tl)) := by
   rw [Int.toNat_natCast, List.set_cons_succ, List.append_assoc, List.set_append_right _ _ (by omega), hz, Nat.sub_self]
   rfl
  have h2 : wrap64 (((i + 1 : Nat) : Int) - 1) = (i : Int) := by rw [w64 (by omega) (by omega)]; omega
  rw [h1, h2]
  refine ev_cast (ih (x / 256) ys ((x : Int) % 256 :: tl) hz hx (by omega)) ?_
  rw [beBytes_pos hx0, List.map_append, List.append_assoc]
  congr 3
  simp only [List.map_cons, List.map_nil, List.singleton_append, toNat_mod]
  congr 1
theorem ofNat_map (l : Bs) : (l.map (fun c => (c.toNat : Int))).map (fun n => UInt8.ofNat n.toNat) = l := by
 rw [List.map_map]
 conv => rhs; rw [← List.map_id l]
 congr 1
 funext c
 simp [UInt8.ofNat_toNat]
theorem wirePut_ev (n : Nat) (h : n < 18446744073709551616) : Ev (fun k => wire_Put.f k (n : Int)) (ofBytes (putL n)) := by
 have hb := beBytes_bits h
 have h8 := beBytes_len8 h
 have hl : bits_Len64.f (n : Int) = some ((Lib.bitLen n : Nat) : Int) := by
  unfold bits_Len64.f
  rw [if_pos ⟨by omega, by omega⟩, Int.toNat_natCast]
 have h1 : wrap64 (Int.tdiv (wrap64 (((Lib.bitLen n : Nat) : Int) + 7)) 8) = ((beBytes n).length : Int) := by
  rw [w64 (n := ((Lib.bitLen n : Nat) : Int) + 7) (by omega) (by omega), Int.tdiv_eq_ediv_of_nonneg (by omega), hb]
  rw [w64 (by omega) (by omega)]
  omega
 unfold wire_Put.f
 refine Ev.put hl ?_
 rw [h1, w64 (n := 1 + ((beBytes n).length : Int)) (by omega) (by omega)]
 refine Ev.pos (by omega) (Ev.pos (by omega) (Ev.put rfl (Ev.pos (by rw [List.length_replicate]; omega) ?_)))
 rw [show (1 + ((beBytes n).length : Int)).toNat = (beBytes n).length + 1 from by omega, List.replicate_succ]
 have h2 := put_loop (beBytes n).length n (((beBytes n).length : Int) % 256) (List.replicate (beBytes n).length 0) [] (by simp) rfl h8
 rw [List.append_nil] at h2
 refine ev_cast h2 ?_
 rw [nums_of, List.append_nil, List.map_cons, ofNat_map]
 unfold putL
 clear h2 h1 hl
 congr 2
 rw [show (((beBytes n).length : Int) % 256).toNat = (beBytes n).length % 256 from by omega]
 exact u8_mod _
def numB (n : Nat) : ByteArray := ofBytes (putL n)
theorem size_numB {n : Nat} (h : n < 18446744073709551616) : (numB n).size ≤ 9 := by
 unfold numB; rw [size_ofBytes]; exact putL_len h
theorem joinB_two (a b : ByteArray) : joinB [a, b] = a ++ b := by
 unfold joinB
 simp only [List.flatMap_cons, List.flatMap_nil, List.append_nil]
 rw [ofBytes_append, ofBytes_bytes, ofBytes_bytes]
theorem putText_ev (s : ByteArray) (h : s.size ≤ 100000000000000) : Ev (fun k => wire_PutText.f k s) (numB s.size ++ s) := by
 have hw : IntKind.u64.wrap (s.size : Int) = (s.size : Int) := by rw [IntKind.wrap_u64]; omega
 unfold wire_PutText.f
 rw [hw]
 refine Ev.bind (wirePut_ev s.size (by omega)) (Ev.put (a := numB s.size ++ s) ?_ (Ev.now _))
 have := size_numB (n := s.size) (by omega)
 show wire_join.f [numB s.size, s] = _
 unfold wire_join.f
 rw [if_pos ⟨by simp, by rw [joinB_two, ByteArray.size_append]; omega⟩, joinB_two]
theorem refPut_loop (n : Nat) (acc : List Int) (hn : n < 18446744073709551616) (ha : acc.length + (beBytes n).length ≤ 8) :
  Ev (fun k => letterlockref2_Put.l0 k (n : Int) acc) (ofBytes (UInt8.ofNat (acc.length + (beBytes n).length) :: (beBytes n ++ bytes (strOfNums acc)))) := by
 induction n using Nat.strongRecOn generalizing acc with
 | _ n ih =>
  by_cases h0 : n = 0
  ·subst h0
   rw [beBytes_zero] at ha ⊢
   refine Ev.step (fun _ => rfl) (Ev.neg (by simp) (Ev.put rfl (Ev.pos ?_ (Ev.const ?_))))
   ·rw [← bytes_length, ← bytes_length, nums_bytes, nums_bytes, List.length_map, List.length_map]
    simp only [List.length_singleton]
    omega
   ·refine congrArg some (bs_inj ?_)
    rw [bytes_append, nums_bytes, bytes_ofBytes]
    simp only [List.map_cons, List.map_nil, List.length_nil, Nat.add_zero, List.nil_append, List.singleton_append]
    congr 2
    omega
  ·refine Ev.step (fun _ => rfl) (Ev.pos (by omega) (Ev.put rfl (Ev.pos ?_ ?_)))
   ·simp only [List.length_singleton]; omega
   ·have h1 : IntKind.u64.wrap (Int.tdiv (n : Int) 256) = ((n / 256 : Nat) : Int) := by
     rw [IntKind.wrap_u64, Int.tdiv_eq_ediv_of_nonneg (by omega)]; omega
    have h2 : Int.tmod (n : Int) 256 % 256 = ((n % 256 : Nat) : Int) := by
     rw [Int.tmod_eq_emod_of_nonneg (by omega)]; omega
    rw [h1, h2]
    rw [beBytes_pos h0, List.length_append, List.length_singleton] at ha
    refine ev_cast (ih (n / 256) (by omega) _ (by omega) (by simp only [List.length_append, List.length_singleton]; omega)) ?_
    rw [beBytes_pos h0]
    simp only [List.length_append, List.length_singleton]
    rw [show 1 + acc.length + (beBytes (n / 256)).length = acc.length + ((beBytes (n / 256)).length + 1) from by omega, List.append_assoc]
    congr 3
theorem refPut_ev (n : Nat) (h : n < 18446744073709551616) : Ev (fun k => letterlockref2_Put.f k (n : Int)) (numB n) := by
 have h8 := beBytes_len8 h
 unfold letterlockref2_Put.f
 refine ev_cast (refPut_loop n [] h (by simpa using h8)) ?_
 unfold numB putL
 rw [nums_bytes]
 simp
theorem refTake_loop (s : ByteArray) (j c m : Nat) (hm : j + m = c) (hj : 1 ≤ j) (hc : c ≤ s.size) (hc9 : c ≤ 9) :
  Ev (fun k => letterlockref2_Take.l0 k s ((beNum (((bytes s).drop 1).take (j - 1)) : Nat) : Int) (c : Int) (j : Int)) (((beNum (((bytes s).drop 1).take (c - 1)) : Nat) : Int), s.extract c s.size, 0) := by
 induction m generalizing j with
 | zero =>
  obtain rfl : j = c := by omega
  exact Ev.step (fun _ => rfl) (Ev.neg (by omega) (Ev.pos (by omega) (Ev.pos (by omega) (Ev.now _))))
 | succ m ih =>
  have hl : j - 1 < ((bytes s).drop 1).length := by rw [List.length_drop, bytes_length]; omega
  have hb : bt s (j : Int) = ((((bytes s).drop 1)[j - 1]).toNat : Int) := by
   rw [bt_bytes s j (by omega), List.getElem_drop]
   congr 2
   congr 1
   omega
  have hlt := beNum_lt (((bytes s).drop 1).take (j - 1))
  have hlen : (((bytes s).drop 1).take (j - 1)).length = j - 1 := by rw [List.length_take]; omega
  rw [hlen] at hlt
  have h7 : 256 ^ (j - 1) ≤ 256 ^ 7 := Nat.pow_le_pow_right (by decide) (by omega)
  have h7' : (256 : Nat) ^ 7 = 72057594037927936 := by decide
  have hbb := (((bytes s).drop 1)[j - 1]).toNat_lt
  have hst : beNum (((bytes s).drop 1).take (j + 1 - 1)) = beNum (((bytes s).drop 1).take (j - 1)) * 256 + (((bytes s).drop 1)[j - 1]).toNat := by
   rw [show j + 1 - 1 = (j - 1) + 1 from by omega, take_succ_get _ _ hl, beNum_snoc]
  refine Ev.step (fun _ => rfl) (Ev.pos (by omega) (Ev.pos (by omega) (Ev.pos (by omega) ?_)))
  have h1 : IntKind.u64.wrap (IntKind.u64.wrap (256 * ((beNum (((bytes s).drop 1).take (j - 1)) : Nat) : Int)) + IntKind.u64.wrap (bt s (j : Int))) = ((beNum (((bytes s).drop 1).take (j + 1 - 1)) : Nat) : Int) := by
   rw [hst, hb, IntKind.wrap_u64, IntKind.wrap_u64, IntKind.wrap_u64]
   omega
  rw [h1, w64 (n := (j : Int) + 1) (by omega) (by omega)]
  exact ih (j + 1) (by omega) (by omega)
theorem refTake_ev (s : ByteArray) : Ev (fun k => letterlockref2_Take.f k s) (takeF s) := by
 unfold letterlockref2_Take.f
 cases hs : bytes s with
 | nil =>
  have ht : takeF s = (0, ⟨#[]⟩, 2) := by unfold takeF; rw [hs]; rfl
  rw [ht]
  exact Ev.pos (by rw [bytes_toList, hs]) (Ev.step (fun _ => rfl) (Ev.now _))
 | cons c r =>
  have hsz : s.size = r.length + 1 := by rw [← bytes_length, hs, List.length_cons]
  have hb0 : bt s 0 = (c.toNat : Int) := by
   have := bt_bytes s 0 (by omega)
   simp only [hs, List.getElem_cons_zero] at this
   exact this
  have hlt := c.toNat_lt
  refine Ev.neg (by rw [bytes_toList, hs]; simp) (Ev.pos (by omega) ?_)
  rw [hb0]
  have hw : wrap64 (1 + wrap64 (c.toNat : Int)) = ((c.toNat + 1 : Nat) : Int) := by rw [w64 (n := (c.toNat : Int)) (by omega) (by omega), w64 (by omega) (by omega)]; omega
  rw [hw]
  have ht : takeF s = (match (if 8 < c.toNat then none else if r.length < c.toNat then none else if 0 < c.toNat ∧ r.head? = some 0 then none else some (beNum (r.take c.toNat), r.drop c.toNat)) with | none => (0, ⟨#[]⟩, 2) | some (n, r) => ((n : Int), ofBytes r, 0)) := by
   unfold takeF; rw [hs]; rfl
  by_cases h1 : 8 < c.toNat
  ·rw [if_pos h1] at ht
   rw [ht]
   exact Ev.pos (by omega) (Ev.step (fun _ => rfl) (Ev.now _))
  rw [if_neg h1] at ht
  refine Ev.neg (by omega) ?_
  by_cases h2 : r.length < c.toNat
  ·rw [if_pos h2] at ht
   rw [ht]
   exact Ev.pos (by omega) (Ev.step (fun _ => rfl) (Ev.now _))
  rw [if_neg h2] at ht
  refine Ev.neg (by omega) ?_
  have hgo : Ev (fun k => letterlockref2_Take.l0 k s 0 ((c.toNat + 1 : Nat) : Int) 1) (((beNum (r.take c.toNat) : Nat) : Int), ofBytes (r.drop c.toNat), 0) := by
   have := refTake_loop s 1 (c.toNat + 1) c.toNat (by omega) (by omega) (by omega) (by omega)
   rw [hs] at this
   refine ev_cast this ?_
   rw [show s.extract (c.toNat + 1) s.size = ofBytes (r.drop c.toNat) from bs_inj (by rw [bytes_from, hs, bytes_ofBytes]; rfl)]
   rfl
  by_cases h3 : 0 < c.toNat
  ·refine Ev.pos (by omega) ?_
   have hr0 : 0 < r.length := by omega
   have hb1 : bt s 1 = ((r[0]).toNat : Int) := by
    have := bt_bytes s 1 (by omega)
    simp only [hs, List.getElem_cons_succ] at this
    exact this
   have hh : r.head? = some r[0] := by rw [List.head?_eq_getElem?, List.getElem?_eq_getElem hr0]
   refine Ev.pos (by omega) ?_
   rw [hb1]
   by_cases h4 : r[0] = 0
   ·rw [if_pos ⟨h3, by rw [hh, h4]⟩] at ht
    rw [ht, h4]
    exact Ev.step (fun _ => rfl) (Ev.now _)
   ·have h5 : ¬ (r[0]).toNat = 0 := fun e => h4 (UInt8.toNat_inj.1 e)
    rw [if_neg (fun e => h4 (by have := e.2; rw [hh] at this; exact Option.some.inj this))] at ht
    rw [ht, beq_eq_false_iff_ne.mpr (by omega)]
    refine Ev.step (fun _ => rfl) (Ev.pos (by omega) ?_)
    rw [hb0, hw]
    exact hgo
  ·rw [if_neg (fun e => h3 e.1)] at ht
   rw [ht]
   refine Ev.neg (by omega) (Ev.step (fun _ => rfl) (Ev.pos (by omega) ?_))
   rw [hb0, hw]
   exact hgo
theorem refTakeText_ev (s : ByteArray) (h : s.size ≤ 1000000) : Ev (fun k => letterlockref2_TakeText.f k s 4000) (takeTextF 4000 s) := by
 unfold letterlockref2_TakeText.f takeTextF
 refine Ev.bind (refTake_ev s) ?_
 unfold takeF
 cases ht : takeL (bytes s) with
 | none => exact Ev.neg (by simp) (Ev.now _)
 | some x =>
  obtain ⟨n, r⟩ := x
  have hn := (take_inv ht).2
  have hr : r.length ≤ 1000000 := by
   have := congrArg List.length (take_inv ht).1
   rw [bytes_length, List.length_append] at this
   omega
  refine Ev.pos rfl ?_
  simp only
  rw [show IntKind.u64.wrap (mx 4000 0) = 4000 from rfl, size_ofBytes, show IntKind.u64.wrap (r.length : Int) = (r.length : Int) from by rw [IntKind.wrap_u64]; omega]
  by_cases h1 : 4000 < n
  ·rw [if_pos h1]; exact Ev.pos (by omega) (Ev.now _)
  rw [if_neg h1]
  refine Ev.neg (by omega) ?_
  by_cases h2 : r.length < n
  ·rw [if_pos h2]; exact Ev.pos (by omega) (Ev.now _)
  rw [if_neg h2]
  refine Ev.neg (by omega) (Ev.pos (by omega) (Ev.pos (by omega) (Ev.const ?_)))
  rw [Int.toNat_natCast, show (ofBytes r).extract 0 n = ofBytes (r.take n) from bs_inj (by rw [bytes_to, bytes_ofBytes, bytes_ofBytes]),
   show (ofBytes r).extract n r.length = ofBytes (r.drop n) from bs_inj (by rw [← size_ofBytes r, bytes_from, bytes_ofBytes, bytes_ofBytes])]
end Go.Proofs.YtphehoidkmficaaGreatDoor.Ref
end
section

namespace Go.Proofs.YtphehoidkmficaaGreatDoor.Ref
open Go.RowKit Go.Proofs.YtphehoidkmficaaGreatDoor Go.Proofs.YtphehoidkmficaaGreatDoor.PA Go.Proofs.YtphehoidkmficaaGreatDoorW.PrintWords Go.Proofs.YtphehoidkmficaaGreatDoorW.PrintLast
set_option linter.unusedVariables false
def textB (s : ByteArray) : ByteArray := (⟨#[116]⟩ : ByteArray) ++ (numB s.size ++ s)
def textF (s : ByteArray) : ByteArray × Int := if (textB s).size > 4000 then (⟨#[]⟩, 10) else (textB s, 0)
theorem ofText_ev (s : ByteArray) (h : s.size ≤ 100000000000000) : Ev (fun k => term_OfText.f k s) (textF s) := by
 have h1 := size_numB (n := s.size) (by omega)
 have h2 : (numB s.size ++ s).size ≤ 100000000000009 := by rw [ByteArray.size_append]; omega
 unfold term_OfText.f
 refine Ev.bind (putText_ev s h) (Ev.pos (by omega) ?_)
 unfold textF textB
 by_cases h3 : ((⟨#[116]⟩ : ByteArray) ++ (numB s.size ++ s)).size > 4000
 ·rw [if_pos h3]
  exact Ev.pos (by omega) (Ev.now _)
 ·rw [if_neg h3]
  exact Ev.neg (by omega) (Ev.now _)
def atomB (n : Nat) : ByteArray := (⟨#[97]⟩ : ByteArray) ++ numB n
theorem size_one (c : UInt8) : (⟨#[c]⟩ : ByteArray).size = 1 := rfl
theorem size_atomB {n : Nat} (h : n < 18446744073709551616) : (atomB n).size ≤ 10 := by
 unfold atomB
 have := size_numB h
 rw [ByteArray.size_append, size_one]; omega
theorem of_val (c : ByteArray) (l : List ByteArray) (hc : c.size ≤ 1000000) (hl : l.length ≤ 1000000) (h : ∀ s ∈ l, s.size ≤ 9223372036854774000) : term_of.f c l = some (ofF c l) := by
 unfold term_of.f
 rw [if_pos ⟨hc, hl, by simpa using h⟩]
def hashF (s : ByteArray) : ByteArray × Int := ofF (⟨#[104]⟩ : ByteArray) [s]
def pairF (a b : ByteArray) : ByteArray × Int := ofF (⟨#[112]⟩ : ByteArray) [a, b]
theorem hash_val (s : ByteArray) (h : s.size ≤ 9223372036854774000) : term_OfHash.f s = some (hashF s) := by
 unfold term_OfHash.f
 rw [of_val _ _ (by rw [size_one]; omega) (by simp) (by simpa using h)]
 rfl
theorem pair_val (a b : ByteArray) (ha : a.size ≤ 9223372036854774000) (hb : b.size ≤ 9223372036854774000) : term_OfPair.f a b = some (pairF a b) := by
 unfold term_OfPair.f
 rw [of_val _ _ (by rw [size_one]; omega) (by simp) (by simpa using ⟨ha, hb⟩)]
 rfl
theorem right_big {s : ByteArray} (h : 4000 < s.size) : right s = false := by
 cases hr : right s with
 | false => rfl
 | true => have := right_size hr; omega
theorem right_of {s : ByteArray} {t : T} (h : bytes s = enc t) (hw : Wf t) : right s = true := by
 unfold right; rw [h, termOf_enc hw]; rfl
theorem right_inv {s : ByteArray} (h : right s = true) : ∃ t, Wf t ∧ bytes s = enc t := by
 obtain ⟨t, ht⟩ := Option.isSome_iff_exists.1 h
 obtain ⟨h1, h2⟩ := termOf_inv ht
 exact ⟨t, h2, h1⟩
theorem ofF_size (c : ByteArray) (l : List ByteArray) : (ofF c l).1.size ≤ 4000 := by
 unfold ofF
 split
 ·split
  ·rename_i h; exact right_size h
  ·exact Nat.zero_le _
 ·exact Nat.zero_le _
theorem ofF_right {c : ByteArray} {l : List ByteArray} (h : (ofF c l).2 = 0) : right (ofF c l).1 = true := by
 unfold ofF at h ⊢
 split
 ·rename_i h1
  rw [if_pos h1] at h
  split
  ·rename_i h2; exact h2
  ·rename_i h2; rw [if_neg h2] at h; simp at h
 ·rename_i h1; rw [if_neg h1] at h; simp at h
theorem kindF_zero (s : ByteArray) : kindF s = 0 ↔ right s = false := by
 unfold kindF right
 cases h : termOf (bytes s) with
 | none => simp
 | some t =>
  have : t.code.toNat ≠ 0 := by
   cases t with
   | atom n => exact (by decide : (97 : UInt8).toNat ≠ 0)
   | text n => exact (by decide : (116 : UInt8).toNat ≠ 0)
   | one k a => exact (by cases k <;> decide : k.code.toNat ≠ 0)
   | two k a b => exact (by cases k <;> decide : k.code.toNat ≠ 0)
  simp only [Option.isSome_some]
  constructor
  ·intro h; omega
  ·intro h; simp at h
theorem bytes_numB (n : Nat) : bytes (numB n) = putL n := bytes_ofBytes _
theorem bytes_one (c : UInt8) : bytes (⟨#[c]⟩ : ByteArray) = [c] := rfl
theorem bytes_textB (s : ByteArray) : bytes (textB s) = enc (.text (bytes s)) := by
 unfold textB
 rw [bytes_append, bytes_append, bytes_one, bytes_numB]
 show _ = 116 :: putT (bytes s)
 unfold putT
 rw [bytes_length]; rfl
theorem bytes_atomB (n : Nat) : bytes (atomB n) = enc (.atom n) := by
 unfold atomB
 rw [bytes_append, bytes_one, bytes_numB]; rfl
theorem right_textB (s : ByteArray) : right (textB s) = decide ((textB s).size ≤ 4000) := by
 by_cases h : (textB s).size ≤ 4000
 ·rw [decide_eq_true h]
  refine right_of (bytes_textB s) ⟨?_, ?_⟩
  ·show (bytes s).length ≤ 4000
   have : s.size ≤ (textB s).size := by unfold textB; rw [ByteArray.size_append, ByteArray.size_append]; omega
   rw [bytes_length]; omega
  ·rw [← bytes_textB, bytes_length]; exact h
 ·rw [decide_eq_false h]
  exact right_big (by omega)
theorem textF_right (s : ByteArray) : textF s = if right (textB s) = true then (textB s, 0) else (⟨#[]⟩, 10) := by
 unfold textF
 rw [right_textB]
 by_cases h : (textB s).size ≤ 4000
 ·rw [if_neg (by omega), decide_eq_true h, if_pos rfl]
 ·rw [if_pos (by omega), decide_eq_false h, if_neg (by simp)]
theorem textF_size (s : ByteArray) : (textF s).1.size ≤ 4000 := by
 unfold textF
 split
 ·exact Nat.zero_le _
 ·rename_i h; show (textB s).size ≤ 4000; omega
theorem hash_size (s : ByteArray) : (hashF s).1.size ≤ 4000 := ofF_size _ _
theorem pair_size (a b : ByteArray) : (pairF a b).1.size ≤ 4000 := ofF_size _ _
theorem kind_val (s : ByteArray) (h : s.size ≤ 9223372036854774000) : term_Kind.f s = some (kindF s) := by
 unfold term_Kind.f; rw [if_pos h]
theorem hash_of {s : ByteArray} {t : T} (h : bytes s = enc t) (hw : Wf (.one .h t)) : hashF s = (⟨#[104]⟩ ++ s, 0) := by
 have h1 : right s = true := right_of h ⟨ok_mono (d := 39) (show ok 39 t from hw.1) (by omega), by have := hw.2; simp only [enc, List.length_cons] at this; omega⟩
 have h2 : right ((⟨#[104]⟩ : ByteArray) ++ s) = true := right_of (t := .one .h t) (by rw [bytes_append, h]; rfl) hw
 unfold hashF ofF
 rw [if_pos (by simp [h1]), if_pos (show right (catB ⟨#[104]⟩ [s]) = true from h2)]
 rfl
def tm (t : T) : ByteArray := ofBytes (enc t)
theorem bytes_tm (t : T) : bytes (tm t) = enc t := bytes_ofBytes _
theorem size_tm (t : T) : (tm t).size = (enc t).length := size_ofBytes _
theorem right_tm {t : T} (h : Wf t) : right (tm t) = true := right_of (bytes_tm t) h
theorem hash_tm {t : T} (hw : Wf (.one .h t)) : hashF (tm t) = (tm (.one .h t), 0) := by
 rw [hash_of (bytes_tm t) hw, show (⟨#[104]⟩ : ByteArray) ++ tm t = tm (.one .h t) from bs_inj (by rw [bytes_append, bytes_tm, bytes_tm]; rfl)]
theorem pair_tm {a b : T} (hw : Wf (.two .p a b)) : pairF (tm a) (tm b) = (tm (.two .p a b), 0) := by
 have ha : Wf a := ⟨ok_mono (d := 39) hw.1.1 (by omega), by have := hw.2; simp only [enc, List.length_cons, List.length_append] at this; omega⟩
 have hb : Wf b := ⟨ok_mono (d := 39) hw.1.2.1 (by omega), by have := hw.2; simp only [enc, List.length_cons, List.length_append] at this; omega⟩
 have he : catB ⟨#[112]⟩ [tm a, tm b] = tm (.two .p a b) := bs_inj (by
  show bytes ((⟨#[112]⟩ ++ tm a) ++ tm b) = _
  rw [bytes_append, bytes_append, bytes_tm, bytes_tm, bytes_tm]
  simp only [enc, K2.code]
  rfl)
 unfold pairF ofF
 rw [he, if_pos (by simp [right_tm ha, right_tm hb]), if_pos (right_tm hw)]
theorem textB_tm (s : ByteArray) : textB s = tm (.text (bytes s)) := bs_inj (by rw [bytes_textB, bytes_tm])
theorem atomB_tm (n : Nat) : atomB n = tm (.atom n) := bs_inj (by rw [bytes_atomB, bytes_tm])
theorem len_text (s : ByteArray) (h : s.size ≤ 4000) : (enc (.text (bytes s))).length ≤ 10 + s.size := by
 rw [← bytes_textB, bytes_length]
 have := size_numB (n := s.size) (by omega)
 unfold textB
 rw [ByteArray.size_append, ByteArray.size_append, size_one]; omega
theorem len_atom (n : Nat) (h : n < 18446744073709551616) : (enc (.atom n)).length ≤ 10 := by
 rw [← bytes_atomB, bytes_length]; exact size_atomB h
theorem ofF_codes2 {c : ByteArray} {l : List ByteArray} (h : l.all right = true) : (ofF c l).2 = 0 ∨ (ofF c l).2 = 10 := by
 unfold ofF
 rw [if_pos h]
 split
 ·exact Or.inl rfl
 ·exact Or.inr rfl
theorem right_tm_of {s : ByteArray} (h : right s = true) : ∃ t, Wf t ∧ s = tm t := by
 obtain ⟨t, h1, h2⟩ := right_inv h
 exact ⟨t, h1, bs_inj (by rw [h2, bytes_tm])⟩
end Go.Proofs.YtphehoidkmficaaGreatDoor.Ref
end
