/- Contracts and laws that the statement of LawDataTells,LawWriterTells leans on (packed from this claim's own texts): part 11. -/
import Derived.Test.YtphehoidkmficaaGreatDoorQT7
import Derived.Test.YtphehoidkmficaaGreatDoorQT9
section

namespace Go.Proofs.YtphehoidkmficaaGreatDoor.PA
open Go.RowKit Go.Proofs.YtphehoidkmficaaGreatDoorW.PrintWords Go.Proofs.YtphehoidkmficaaGreatDoorW.PrintLast Go.Proofs.YtphehoidkmficaaGreatDoorW.PrintMore
attribute [local go_sem] max2_int min2_int max_two min_two max_three min_three max_four min_four   -- for this text's walks alone
set_option linter.unusedVariables false
set_option linter.unusedSimpArgs false
mutual
def letterlockref3_size.j0 : Nat → ByteArray → Int → Bool → Option (Int)
 | 0, _, _, _ => none
 | k + 1, x0, x1, x22 => if x22 = true then (some 0) else (if 0 < (x0.size : Int) then (if (bt x0 0) = 97 then (letterlockref3_size.j1 k x0 x1 true) else (letterlockref3_size.j1 k x0 x1 ((bt x0 0) == 116))) else (none))
def letterlockref3_size.j1 : Nat → ByteArray → Int → Bool → Option (Int)
 | 0, _, _, _ => none
 | k + 1, x0, x1, x30 => if x30 = true then (if 1 ≤ (x0.size : Int) then ((letterlockref2_Take.f k (x0.extract 1 x0.size)).bind fun bt209 => (if 0 < (x0.size : Int) then (if (bt x0 0) = 116 then ((letterlockref2_TakeText.f k (x0.extract 1 x0.size) 4000).bind fun bt212 => (if bt212.2.2 = 0 then (some (wrap64 ((x0.size : Int) - (bt212.2.1.size : Int)))) else (some 0))) else (if bt209.2.2 = 0 then (some (wrap64 ((x0.size : Int) - (bt209.2.1.size : Int)))) else (some 0))) else (none))) else (none)) else (letterlockref3_size.l0 k x0 x1 1 0)
def letterlockref3_size.l0 : Nat → ByteArray → Int → Int → Int → Option (Int)
 | 0, _, _, _, _ => none
 | k + 1, x0, x1, x8, x9 => if 0 < (x0.size : Int) then ((letterlockref3_many.f k (bt x0 0)).bind fun t215 => (if x9 < t215 then (if (bt x0 0) = 98 then (if x9 = 0 then (if x8 ≥ (x0.size : Int) then (letterlockref3_size.j3 k x0 x1 x8 x9 true) else (if 0 ≤ x8 then (if x8 < (x0.size : Int) then (letterlockref3_size.j3 k x0 x1 x8 x9 ((bt x0 x8) != 117)) else (none)) else (none))) else (letterlockref3_size.j3 k x0 x1 x8 x9 false)) else (letterlockref3_size.j3 k x0 x1 x8 x9 false)) else (some x8))) else (none)
def letterlockref3_size.j3 : Nat → ByteArray → Int → Int → Int → Bool → Option (Int)
 | 0, _, _, _, _, _ => none
 | k + 1, x0, x1, x8, x9, x80 => if x80 = true then (some 0) else (if 0 ≤ x8 then (if x8 ≤ (x0.size : Int) then ((letterlockref3_size.f k (x0.extract (x8 : Int).toNat x0.size) (wrap64 (x1 - 1))).bind fun t216 => (if t216 = 0 then (some 0) else (letterlockref3_size.l0 k x0 x1 (wrap64 (x8 + t216)) (wrap64 (x9 + 1))))) else (none)) else (none))
def letterlockref3_size.f : Nat → ByteArray → Int → Option (Int)
 | 0, _, _ => none
 | k + 1, a0, a1 => if a0.toList = ([] : List UInt8) then (letterlockref3_size.j0 k a0 a1 true) else (if a1 = 0 then (letterlockref3_size.j0 k a0 a1 true) else (if 0 < (a0.size : Int) then ((letterlockref3_many.f k (bt a0 0)).bind fun t208 => (letterlockref3_size.j0 k a0 a1 (decide (t208 < 0)))) else (none)))
end
set_option maxHeartbeats 8000000 in
set_option maxRecDepth 100000 in
theorem letterlockref3_size.calls (k : Nat) : ∀ (a0 : ByteArray) (a1 : Int) (r : Int) (w : World) (h : letterlockref3_size.f k a0 a1 = some r),
  Calls Tryz.prog 103 #[.string a0, .int .i64 a1] w fun e w' => e = .returned (.int .i64 r) ∧ Below w.heap.size w w' := by
 induction k using Nat.strongRecOn with
 | _ k ih =>
 intro a0 a1 r w h
 cases k with
 | zero => exact absurd h (by simp [letterlockref3_size.f])
 | succ k =>
 simp only [letterlockref3_size.f] at h
 have HB := Aside0.mk (Below.refl w.heap.size w)
 have H : (if a0.toList = ([] : List UInt8) then (letterlockref3_size.j0 k a0 a1 true) else (if a1 = 0 then (letterlockref3_size.j0 k a0 a1 true) else (if 0 < (a0.size : Int) then ((letterlockref3_many.f k (bt a0 0)).bind fun t208 => (letterlockref3_size.j0 k a0 a1 (decide (t208 < 0)))) else (none)))) = some r := h
 clear h
 have HC3 := Aside0.mk H
 clear H
 go_enter Tryz.func103, Tryz.ntmps103
 go_upto_region 1 with (fail)
 go_cut [22] (fun v22 wc => ∃ (kq : Nat) (x22_2 : Bool), v22 = .bool x22_2 ∧ Aside0 (letterlockref3_size.j0 kq a0 a1 x22_2 = some r) ∧ Aside0 (kq ≤ k) ∧ Aside0 (Below w.heap.size w wc))
 case first =>
  have H := HC3.out
  clear HC3
  by_cases c4 : a0.toList = ([] : List UInt8)
  ·rw [if_pos c4] at H
   have c4b0 : (a0.toList == ([] : List UInt8)) = true := beq_iff_eq.mpr c4
   have c4b1 : (a0.toList != ([] : List UInt8)) = false := bne_eq_false_iff_eq.mpr c4
   clear c4
   (first | rw [c4b0] | (simp only [i64_w, i32_w]; rw [c4b0]) | skip)
   have H' := Aside0.mk H
   clear H
   go_wp2
   go_meet
   case rel => exact ⟨_, (true), (by first | rfl | (simp; done) | (simp [*]; done)), H', ⟨by first | omega | exact Nat.le_refl _⟩, ⟨by repeat (first | (with_reducible first | exact HB.out | apply below_alloc | apply pw_below_drewN | apply below_drew1) | exact HB.out)⟩⟩
  ·rw [if_neg c4] at H
   have c4b0 : (a0.toList == ([] : List UInt8)) = false := beq_eq_false_iff_ne.mpr c4
   have c4b1 : (a0.toList != ([] : List UInt8)) = true := bne_iff_ne.mpr c4
   (first | rw [c4b0] | (simp only [i64_w, i32_w]; rw [c4b0]) | skip)
   by_cases c5 : a1 = 0
   ·rw [if_pos c5] at H
    have c5b0 : (a1 == 0) = true := beq_iff_eq.mpr c5
    have c5b1 : (a1 != 0) = false := bne_eq_false_iff_eq.mpr c5
    clear c5
    have H' := Aside0.mk H
    clear H
    go_wp2
    go_meet
    case rel => exact ⟨_, (true), (by first | rfl | (simp; done) | (simp [*]; done)), H', ⟨by first | omega | exact Nat.le_refl _⟩, ⟨by repeat (first | (with_reducible first | exact HB.out | apply below_alloc | apply pw_below_drewN | apply below_drew1) | exact HB.out)⟩⟩
   ·rw [if_neg c5] at H
    have c5b0 : (a1 == 0) = false := beq_eq_false_iff_ne.mpr c5
    have c5b1 : (a1 != 0) = true := bne_iff_ne.mpr c5
    by_cases c6 : 0 < (a0.size : Int)
    ·rw [if_pos c6] at H
     have c6b0 : decide (0 < (a0.size : Int)) = true := decide_eq_true c6
     have c6b1 : decide (0 < a0.size) = true := decide_eq_true (by omega)
     clear c6
     replace H := Option.bind_eq_some_iff.mp H
     obtain ⟨t208, A80, H⟩ := H
     replace H : (letterlockref3_size.j0 k a0 a1 (decide (t208 < 0))) = some r := H
     have A8 := Aside0.mk A80
     clear A80
     have H' := Aside0.mk H
     clear H
     have p7 : 0 ≤ (0 : Int) := (by omega)
     have q7 : 0 < a0.size := (by have : (0 : Int) < (a0.size : Int) := of_decide_eq_true (by first | (with_reducible assumption) | assumption); omega)
     have hx7 : ∀ h : 0 < a0.size, ((a0[0]'h).toNat : Int) = bt a0 0 := bt_at a0 0
     clear p7
     have qi7 : (0 < (a0.size : Int)) = True := eq_true (of_decide_eq_true (by first | (with_reducible assumption) | assumption))
     replace q7 := eq_true q7
     go_wp2_with (first | (go_at_call 123; (with_reducible refine (letterlockref3_many.calls k (bt a0 0) t208 _ A8.out).mono ?_); rintro e w' ⟨rfl, ⟨nd, rfl⟩⟩))
     go_meet
     case rel => exact ⟨_, (decide (t208 < 0)), (by first | rfl | (simp; done) | (simp [*]; done)), H', ⟨by first | omega | exact Nat.le_refl _⟩, ⟨by repeat (first | (with_reducible first | exact HB.out | apply below_alloc | apply pw_below_drewN | apply below_drew1) | exact HB.out)⟩⟩
    ·rw [if_neg c6] at H
     exact absurd H (by simp)
 case rest =>
  clear HC3
  try clear c1
  try clear p2
  try clear c4
  try clear c4b0
  try clear c4b1
  try clear c5
  try clear c5b0
  try clear c5b1
  try clear c6
  try clear c6b0
  try clear c6b1
  try clear p7
  try clear q7
  try clear hx7
  try clear qi7
  try clear p7
  try clear q7
  obtain ⟨kq, x22_2, rfl, HA, HJ2, HB⟩ := hcut
  cases kq with
  | zero => exact absurd HA.out (by simp [letterlockref3_size.j0])
  | succ kj2 =>
   have H := HA.out
   clear HA
   simp only [letterlockref3_size.j0] at H
   by_cases c9 : x22_2 = true
   ·subst c9
    have H1 : (some 0) = some r := by rw [if_pos rfl] at H; exact H
    clear H
    have H := H1
    clear H1
    obtain rfl := Option.some.inj H
    go_wp2
    go_ret
    exact ⟨by first | rfl | (simp [errW_none, errW_some] <;> rfl) | (simp [*, errW_none, errW_some] <;> rfl), by repeat (first | (with_reducible first | exact HB.out | apply below_alloc | apply pw_below_drewN | apply below_drew1) | exact HB.out)⟩
   ·replace c9 := Bool.eq_false_iff.mpr c9
    subst c9
    have H1 : (if 0 < (a0.size : Int) then (if (bt a0 0) = 97 then (letterlockref3_size.j1 kj2 a0 a1 true) else (letterlockref3_size.j1 kj2 a0 a1 ((bt a0 0) == 116))) else (none)) = some r := by rw [if_neg (show ¬ (false = true) by decide)] at H; exact H
    clear H
    have H := H1
    clear H1
    have HC10 := Aside0.mk H
    clear H
    go_upto_region 3 with (fail)
    go_cut [30] (fun v30 wc => ∃ (kq : Nat) (x30_9 : Bool), v30 = .bool x30_9 ∧ Aside0 (letterlockref3_size.j1 kq a0 a1 x30_9 = some r) ∧ Aside0 (kq ≤ kj2) ∧ Aside0 (Below w.heap.size w wc))
    case first =>
     have H := HC10.out
     clear HC10
     by_cases c11 : 0 < (a0.size : Int)
     ·rw [if_pos c11] at H
      have c11b0 : decide (0 < (a0.size : Int)) = true := decide_eq_true c11
      have c11b1 : decide (0 < a0.size) = true := decide_eq_true (by omega)
      clear c11
      (first | rw [c11b0] | (simp only [i64_w, i32_w]; rw [c11b0]) | skip)
      by_cases c13 : (bt a0 0) = 97
      ·rw [if_pos c13] at H
       have c13b0 : ((bt a0 0) == 97) = true := beq_iff_eq.mpr c13
       have c13b1 : ((bt a0 0) != 97) = false := bne_eq_false_iff_eq.mpr c13
       clear c13
       have H' := Aside0.mk H
       clear H
       have p12 : 0 ≤ (0 : Int) := (by omega)
       have q12 : 0 < a0.size := (by have : (0 : Int) < (a0.size : Int) := of_decide_eq_true (by first | (with_reducible assumption) | assumption); omega)
       have hx12 : ∀ h : 0 < a0.size, ((a0[0]'h).toNat : Int) = bt a0 0 := bt_at a0 0
       clear p12
       have qi12 : (0 < (a0.size : Int)) = True := eq_true (of_decide_eq_true (by first | (with_reducible assumption) | assumption))
       replace q12 := eq_true q12
       go_wp2
       go_meet
       case rel => exact ⟨_, (true), (by first | rfl | (simp; done) | (simp [*]; done)), H', ⟨by have := HJ2.out; first | omega | exact Nat.le_refl _⟩, ⟨by repeat (first | (with_reducible first | exact HB.out | apply below_alloc | apply pw_below_drewN | apply below_drew1) | exact HB.out)⟩⟩
      ·rw [if_neg c13] at H
       have c13b0 : ((bt a0 0) == 97) = false := beq_eq_false_iff_ne.mpr c13
       have c13b1 : ((bt a0 0) != 97) = true := bne_iff_ne.mpr c13
       have H' := Aside0.mk H
       clear H
       have p12 : 0 ≤ (0 : Int) := (by omega)
       have q12 : 0 < a0.size := (by have : (0 : Int) < (a0.size : Int) := of_decide_eq_true (by first | (with_reducible assumption) | assumption); omega)
       have hx12 : ∀ h : 0 < a0.size, ((a0[0]'h).toNat : Int) = bt a0 0 := bt_at a0 0
       clear p12
       have qi12 : (0 < (a0.size : Int)) = True := eq_true (of_decide_eq_true (by first | (with_reducible assumption) | assumption))
       replace q12 := eq_true q12
       have p14 : 0 ≤ (0 : Int) := (by omega)
       have q14 : 0 < a0.size := (by have : (0 : Int) < (a0.size : Int) := of_decide_eq_true (by first | (with_reducible assumption) | assumption); omega)
       have hx14 : ∀ h : 0 < a0.size, ((a0[0]'h).toNat : Int) = bt a0 0 := bt_at a0 0
       clear p14
       have qi14 : (0 < (a0.size : Int)) = True := eq_true (of_decide_eq_true (by first | (with_reducible assumption) | assumption))
       replace q14 := eq_true q14
       go_wp2
       go_meet
       case rel => exact ⟨_, (((bt a0 0) == 116)), (by first | rfl | (simp; done) | (simp [*]; done)), H', ⟨by have := HJ2.out; first | omega | exact Nat.le_refl _⟩, ⟨by repeat (first | (with_reducible first | exact HB.out | apply below_alloc | apply pw_below_drewN | apply below_drew1) | exact HB.out)⟩⟩
     ·rw [if_neg c11] at H
      exact absurd H (by simp)
    case rest =>
     clear HC10
     try clear c1
     try clear p1
     try clear q1
     try clear hx1
     try clear qi1
     try clear p2
     try clear c4
     try clear c4b0
     try clear c4b1
     try clear c5
     try clear c5b0
     try clear c5b1
     try clear c6
     try clear c6b0
     try clear c6b1
     try clear p7
     try clear q7
     try clear hx7
     try clear qi7
     try clear c9
     try clear c10
     try clear c11
     try clear c11b0
     try clear c11b1
     try clear p12
     try clear q12
     try clear hx12
     try clear qi12
     try clear c13
     try clear c13b0
     try clear c13b1
     try clear p14
     try clear q14
     try clear hx14
     try clear qi14
     try clear p12
     try clear p14
     try clear p2
     try clear p7
     try clear q12
     try clear q14
     try clear q7
     obtain ⟨kq, x30_9, rfl, HA, HJ9, HB⟩ := hcut
     cases kq with
     | zero => exact absurd HA.out (by simp [letterlockref3_size.j1])
     | succ kj9 =>
      have H := HA.out
      clear HA
      simp only [letterlockref3_size.j1] at H
      by_cases c15 : x30_9 = true
      ·subst c15
       have H1 : (if 1 ≤ (a0.size : Int) then ((letterlockref2_Take.f kj9 (a0.extract 1 a0.size)).bind fun bt209 => (if 0 < (a0.size : Int) then (if (bt a0 0) = 116 then ((letterlockref2_TakeText.f kj9 (a0.extract 1 a0.size) 4000).bind fun bt212 => (if bt212.2.2 = 0 then (some (wrap64 ((a0.size : Int) - (bt212.2.1.size : Int)))) else (some 0))) else (if bt209.2.2 = 0 then (some (wrap64 ((a0.size : Int) - (bt209.2.1.size : Int)))) else (some 0))) else (none))) else (none)) = some r := by rw [if_pos rfl] at H; exact H
       clear H
       have H := H1
       clear H1
       by_cases c16 : 1 ≤ (a0.size : Int)
       ·rw [if_pos c16] at H
        have c16b0 := eq_true c16
        have c16b1 : decide (1 ≤ (a0.size : Int)) = true := decide_eq_true c16
        clear c16
        replace H := Option.bind_eq_some_iff.mp H
        obtain ⟨⟨t209, t210, t211⟩, A170, H⟩ := H
        replace H : (if 0 < (a0.size : Int) then (if (bt a0 0) = 116 then ((letterlockref2_TakeText.f kj9 (a0.extract 1 a0.size) 4000).bind fun bt212 => (if bt212.2.2 = 0 then (some (wrap64 ((a0.size : Int) - (bt212.2.1.size : Int)))) else (some 0))) else (if t211 = 0 then (some (wrap64 ((a0.size : Int) - (t210.size : Int)))) else (some 0))) else (none)) = some r := H
        have A17 := Aside0.mk A170
        clear A170
        by_cases c18 : 0 < (a0.size : Int)
        ·rw [if_pos c18] at H
         have c18b0 : decide (0 < (a0.size : Int)) = true := decide_eq_true c18
         have c18b1 : decide (0 < a0.size) = true := decide_eq_true (by omega)
         clear c18
         by_cases c20 : (bt a0 0) = 116
         ·rw [if_pos c20] at H
          have c20b0 : ((bt a0 0) == 116) = true := beq_iff_eq.mpr c20
          have c20b1 : ((bt a0 0) != 116) = false := bne_eq_false_iff_eq.mpr c20
          clear c20
          have c21b0 := eq_true (of_decide_eq_true (by first | (with_reducible assumption) | assumption) : 1 ≤ (a0.size : Int))
          replace H := Option.bind_eq_some_iff.mp H
          obtain ⟨⟨t212, t213, t214⟩, A220, H⟩ := H
          replace H : (if t214 = 0 then (some (wrap64 ((a0.size : Int) - (t213.size : Int)))) else (some 0)) = some r := H
          have A22 := Aside0.mk A220
          clear A220
          by_cases c23 : t214 = 0
          ·rw [if_pos c23] at H
           have c23b0 : (t214 == 0) = true := beq_iff_eq.mpr c23
           have c23b1 : (t214 != 0) = false := bne_eq_false_iff_eq.mpr c23
           clear c23
           obtain rfl := Option.some.inj H
           go_wp2_with (first | ((with_reducible refine gate_callee (f := 43) rfl ?_); refine goesL_ (some 34) rfl rfl Tryz.func43 (by kernel_rfl) rfl #[.string (a0.extract 1 a0.size)] rfl (by (try simp only [List.map_toArray, List.map_cons, List.map_nil]); first | done | rfl | (simp only [List.length_drop, List.length_take]; rfl)) ?_; (with_reducible refine (letterlockref2_Take.calls kj9 (a0.extract 1 a0.size) t209 t210 t211 _ A17.out).mono ?_); rintro e w' ⟨rfl, ⟨nd, rfl⟩⟩; refine ⟨_, rfl, ?_⟩; have p19 : 0 ≤ (0 : Int) := (by omega); have q19 : 0 < a0.size := (by have : (0 : Int) < (a0.size : Int) := of_decide_eq_true (by first | (with_reducible assumption) | assumption); omega); have hx19 : ∀ h : 0 < a0.size, ((a0[0]'h).toNat : Int) = bt a0 0 := bt_at a0 0; clear p19; have qi19 : (0 < (a0.size : Int)) = True := eq_true (of_decide_eq_true (by first | (with_reducible assumption) | assumption)); replace q19 := eq_true q19) | ((with_reducible refine gate_callee (f := 94) rfl ?_); refine goesL_ (some 44) rfl rfl Tryz.func94 (by kernel_rfl) rfl #[.string (a0.extract 1 a0.size), .int .i64 4000] rfl (by (try simp only [List.map_toArray, List.map_cons, List.map_nil]); first | done | rfl | (simp only [List.length_drop, List.length_take]; rfl)) ?_; (with_reducible refine (letterlockref2_TakeText.calls kj9 (a0.extract 1 a0.size) 4000 t212 t213 t214 _ A22.out).mono ?_); rintro e w24 ⟨rfl, hb⟩; refine ⟨_, rfl, ?_⟩; have n0_ := Aside0.mk (below_step (by repeat (first | (with_reducible first | exact HB.out | apply below_alloc | apply pw_below_drewN | apply below_drew1) | exact HB.out)) hb); clear HB; have HB := n0_; clear n0_; (try clear hb); (try clear hb2); (try clear hk); (try clear hi)))
           go_ret
           exact ⟨by first | rfl | (simp [errW_none, errW_some] <;> rfl) | (simp [*, errW_none, errW_some] <;> rfl), by repeat (first | (with_reducible first | exact HB.out | apply below_alloc | apply pw_below_drewN | apply below_drew1) | exact HB.out)⟩
          ·rw [if_neg c23] at H
           have c23b0 : (t214 == 0) = false := beq_eq_false_iff_ne.mpr c23
           have c23b1 : (t214 != 0) = true := bne_iff_ne.mpr c23
           obtain rfl := Option.some.inj H
           go_wp2_with (first | ((with_reducible refine gate_callee (f := 43) rfl ?_); refine goesL_ (some 34) rfl rfl Tryz.func43 (by kernel_rfl) rfl #[.string (a0.extract 1 a0.size)] rfl (by (try simp only [List.map_toArray, List.map_cons, List.map_nil]); first | done | rfl | (simp only [List.length_drop, List.length_take]; rfl)) ?_; (with_reducible refine (letterlockref2_Take.calls kj9 (a0.extract 1 a0.size) t209 t210 t211 _ A17.out).mono ?_); rintro e w' ⟨rfl, ⟨nd, rfl⟩⟩; refine ⟨_, rfl, ?_⟩; have p19 : 0 ≤ (0 : Int) := (by omega); have q19 : 0 < a0.size := (by have : (0 : Int) < (a0.size : Int) := of_decide_eq_true (by first | (with_reducible assumption) | assumption); omega); have hx19 : ∀ h : 0 < a0.size, ((a0[0]'h).toNat : Int) = bt a0 0 := bt_at a0 0; clear p19; have qi19 : (0 < (a0.size : Int)) = True := eq_true (of_decide_eq_true (by first | (with_reducible assumption) | assumption)); replace q19 := eq_true q19) | ((with_reducible refine gate_callee (f := 94) rfl ?_); refine goesL_ (some 44) rfl rfl Tryz.func94 (by kernel_rfl) rfl #[.string (a0.extract 1 a0.size), .int .i64 4000] rfl (by (try simp only [List.map_toArray, List.map_cons, List.map_nil]); first | done | rfl | (simp only [List.length_drop, List.length_take]; rfl)) ?_; (with_reducible refine (letterlockref2_TakeText.calls kj9 (a0.extract 1 a0.size) 4000 t212 t213 t214 _ A22.out).mono ?_); rintro e w25 ⟨rfl, hb⟩; refine ⟨_, rfl, ?_⟩; have n0_ := Aside0.mk (below_step (by repeat (first | (with_reducible first | exact HB.out | apply below_alloc | apply pw_below_drewN | apply below_drew1) | exact HB.out)) hb); clear HB; have HB := n0_; clear n0_; (try clear hb); (try clear hb2); (try clear hk); (try clear hi)))
           go_ret
           exact ⟨by first | rfl | (simp [errW_none, errW_some] <;> rfl) | (simp [*, errW_none, errW_some] <;> rfl), by repeat (first | (with_reducible first | exact HB.out | apply below_alloc | apply pw_below_drewN | apply below_drew1) | exact HB.out)⟩
         ·rw [if_neg c20] at H
          have c20b0 : ((bt a0 0) == 116) = false := beq_eq_false_iff_ne.mpr c20
          have c20b1 : ((bt a0 0) != 116) = true := bne_iff_ne.mpr c20
          by_cases c26 : t211 = 0
          ·rw [if_pos c26] at H
           have c26b0 : (t211 == 0) = true := beq_iff_eq.mpr c26
           have c26b1 : (t211 != 0) = false := bne_eq_false_iff_eq.mpr c26
           clear c26
           obtain rfl := Option.some.inj H
           go_wp2_with (first | ((with_reducible refine gate_callee (f := 43) rfl ?_); refine goesL_ (some 34) rfl rfl Tryz.func43 (by kernel_rfl) rfl #[.string (a0.extract 1 a0.size)] rfl (by (try simp only [List.map_toArray, List.map_cons, List.map_nil]); first | done | rfl | (simp only [List.length_drop, List.length_take]; rfl)) ?_; (with_reducible refine (letterlockref2_Take.calls kj9 (a0.extract 1 a0.size) t209 t210 t211 _ A17.out).mono ?_); rintro e w' ⟨rfl, ⟨nd, rfl⟩⟩; refine ⟨_, rfl, ?_⟩; have p19 : 0 ≤ (0 : Int) := (by omega); have q19 : 0 < a0.size := (by have : (0 : Int) < (a0.size : Int) := of_decide_eq_true (by first | (with_reducible assumption) | assumption); omega); have hx19 : ∀ h : 0 < a0.size, ((a0[0]'h).toNat : Int) = bt a0 0 := bt_at a0 0; clear p19; have qi19 : (0 < (a0.size : Int)) = True := eq_true (of_decide_eq_true (by first | (with_reducible assumption) | assumption)); replace q19 := eq_true q19))
           go_ret
           exact ⟨by first | rfl | (simp [errW_none, errW_some] <;> rfl) | (simp [*, errW_none, errW_some] <;> rfl), by repeat (first | (with_reducible first | exact HB.out | apply below_alloc | apply pw_below_drewN | apply below_drew1) | exact HB.out)⟩
          ·rw [if_neg c26] at H
           have c26b0 : (t211 == 0) = false := beq_eq_false_iff_ne.mpr c26
           have c26b1 : (t211 != 0) = true := bne_iff_ne.mpr c26
           obtain rfl := Option.some.inj H
           go_wp2_with (first | ((with_reducible refine gate_callee (f := 43) rfl ?_); refine goesL_ (some 34) rfl rfl Tryz.func43 (by kernel_rfl) rfl #[.string (a0.extract 1 a0.size)] rfl (by (try simp only [List.map_toArray, List.map_cons, List.map_nil]); first | done | rfl | (simp only [List.length_drop, List.length_take]; rfl)) ?_; (with_reducible refine (letterlockref2_Take.calls kj9 (a0.extract 1 a0.size) t209 t210 t211 _ A17.out).mono ?_); rintro e w' ⟨rfl, ⟨nd, rfl⟩⟩; refine ⟨_, rfl, ?_⟩; have p19 : 0 ≤ (0 : Int) := (by omega); have q19 : 0 < a0.size := (by have : (0 : Int) < (a0.size : Int) := of_decide_eq_true (by first | (with_reducible assumption) | assumption); omega); have hx19 : ∀ h : 0 < a0.size, ((a0[0]'h).toNat : Int) = bt a0 0 := bt_at a0 0; clear p19; have qi19 : (0 < (a0.size : Int)) = True := eq_true (of_decide_eq_true (by first | (with_reducible assumption) | assumption)); replace q19 := eq_true q19))
           go_ret
           exact ⟨by first | rfl | (simp [errW_none, errW_some] <;> rfl) | (simp [*, errW_none, errW_some] <;> rfl), by repeat (first | (with_reducible first | exact HB.out | apply below_alloc | apply pw_below_drewN | apply below_drew1) | exact HB.out)⟩
        ·rw [if_neg c18] at H
         exact absurd H (by simp)
       ·rw [if_neg c16] at H
        exact absurd H (by simp)
      ·replace c15 := Bool.eq_false_iff.mpr c15
       subst c15
       have H1 : (letterlockref3_size.l0 kj9 a0 a1 1 0) = some r := by rw [if_neg (show ¬ (false = true) by decide)] at H; exact H
       clear H
       have H := H1
       clear H1
       have H' := Aside0.mk H
       clear H
       go_wp2
       go_loopg [8, 9] kj9 (fun kq v8 v9 w' => ∃ (x8_3 : Int) (x9_3 : Int), v8 = .int .i64 x8_3 ∧ v9 = .int .i64 x9_3 ∧ Aside0 (letterlockref3_size.l0 kq a0 a1 x8_3 x9_3 = some r) ∧ Aside0 (kq ≤ kj9) ∧ Aside0 (Below w.heap.size w w'))
       case atStart => exact ⟨(1), (0), (by first | rfl | (simp; done) | (simp [*]; done)), (by first | rfl | (simp; done) | (simp [*]; done)), H', ⟨Nat.le_refl _⟩, ⟨by repeat (first | (with_reducible first | exact HB.out | apply below_alloc | apply pw_below_drewN | apply below_drew1) | exact HB.out)⟩⟩
       case round =>
        clear H'
        try clear c1
        try clear p1
        try clear q1
        try clear hx1
        try clear qi1
        try clear c2
        try clear p2
        try clear c4
        try clear c4b0
        try clear c4b1
        try clear c5
        try clear c5b0
        try clear c5b1
        try clear c6
        try clear c6b0
        try clear c6b1
        try clear p6
        try clear p7
        try clear q7
        try clear hx7
        try clear qi7
        try clear c9
        try clear c10
        try clear c11
        try clear c11b0
        try clear c11b1
        try clear p12
        try clear q12
        try clear hx12
        try clear qi12
        try clear c13
        try clear c13b0
        try clear c13b1
        try clear p14
        try clear q14
        try clear hx14
        try clear qi14
        try clear c15
        try clear c16
        try clear c16b0
        try clear c16b1
        try clear c18
        try clear c18b0
        try clear c18b1
        try clear p19
        try clear q19
        try clear hx19
        try clear qi19
        try clear c20
        try clear c20b0
        try clear c20b1
        try clear c21
        try clear c21b0
        try clear c23
        try clear c23b0
        try clear c23b1
        try clear c26
        try clear c26b0
        try clear c26b1
        try clear p1
        try clear p12
        try clear p14
        try clear p19
        try clear p2
        try clear p7
        try clear q1
        try clear q12
        try clear q14
        try clear q19
        try clear q7
        obtain ⟨x8_3, x9_3, rfl, rfl, HA, HK3, HB⟩ := hrel
        cases gk with
        | zero => exact absurd HA.out (by simp [letterlockref3_size.l0])
        | succ k3 =>
         have H := HA.out
         clear HA
         simp only [letterlockref3_size.l0] at H
         by_cases c27 : 0 < (a0.size : Int)
         ·rw [if_pos c27] at H
          have c27b0 : decide (0 < (a0.size : Int)) = true := decide_eq_true c27
          have c27b1 : decide (0 < a0.size) = true := decide_eq_true (by omega)
          clear c27
          replace H := Option.bind_eq_some_iff.mp H
          obtain ⟨t215, A290, H⟩ := H
          replace H : (if x9_3 < t215 then (if (bt a0 0) = 98 then (if x9_3 = 0 then (if x8_3 ≥ (a0.size : Int) then (letterlockref3_size.j3 k3 a0 a1 x8_3 x9_3 true) else (if 0 ≤ x8_3 then (if x8_3 < (a0.size : Int) then (letterlockref3_size.j3 k3 a0 a1 x8_3 x9_3 ((bt a0 x8_3) != 117)) else (none)) else (none))) else (letterlockref3_size.j3 k3 a0 a1 x8_3 x9_3 false)) else (letterlockref3_size.j3 k3 a0 a1 x8_3 x9_3 false)) else (some x8_3)) = some r := H
          have A29 := Aside0.mk A290
          clear A290
          by_cases c30 : x9_3 < t215
          ·rw [if_pos c30] at H
           have c30b0 : decide (x9_3 < t215) = true := decide_eq_true c30
           clear c30
           have HC31 := Aside0.mk H
           clear H
           have p28 : 0 ≤ (0 : Int) := (by omega)
           have q28 : 0 < a0.size := (by have : (0 : Int) < (a0.size : Int) := of_decide_eq_true (by first | (with_reducible assumption) | assumption); omega)
           have hx28 : ∀ h : 0 < a0.size, ((a0[0]'h).toNat : Int) = bt a0 0 := bt_at a0 0
           clear p28
           have qi28 : (0 < (a0.size : Int)) = True := eq_true (of_decide_eq_true (by first | (with_reducible assumption) | assumption))
           replace q28 := eq_true q28
           go_upto_region 14 with (first | ((with_reducible refine gate_callee (f := 123) rfl ?_); refine goesL_ (some 58) rfl rfl Tryz.func123 (by kernel_rfl) rfl #[.int .u8 (bt a0 0)] rfl (by (try simp only [List.map_toArray, List.map_cons, List.map_nil]); first | done | rfl | (simp only [List.length_drop, List.length_take]; rfl)) ?_; (with_reducible refine (letterlockref3_many.calls k3 (bt a0 0) t215 _ A29.out).mono ?_); rintro e w' ⟨rfl, ⟨nd, rfl⟩⟩; refine ⟨_, rfl, ?_⟩))
           (try simp only [Act.put, List.setIfInBounds_toArray, List.set_cons_zero, List.set_cons_succ])
           go_cut [80] (fun v80 wc => ∃ (kq : Nat) (x80_30 : Bool), v80 = .bool x80_30 ∧ Aside0 (letterlockref3_size.j3 kq a0 a1 x8_3 x9_3 x80_30 = some r) ∧ Aside0 (kq ≤ k3) ∧ Aside0 (Below w.heap.size w wc))
           case first =>
            have H := HC31.out
            clear HC31
            by_cases c33 : (bt a0 0) = 98
            ·rw [if_pos c33] at H
             have c33b0 : ((bt a0 0) == 98) = true := beq_iff_eq.mpr c33
             have c33b1 : ((bt a0 0) != 98) = false := bne_eq_false_iff_eq.mpr c33
             clear c33
             (first | rw [c33b0] | (simp only [i64_w, i32_w]; rw [c33b0]) | skip)
             by_cases c34 : x9_3 = 0
             ·rw [if_pos c34] at H
              have c34b0 : (x9_3 == 0) = true := beq_iff_eq.mpr c34
              have c34b1 : (x9_3 != 0) = false := bne_eq_false_iff_eq.mpr c34
              clear c34
              by_cases c35 : x8_3 ≥ (a0.size : Int)
              ·rw [if_pos c35] at H
               have c35b0 : decide ((a0.size : Int) ≤ x8_3) = true := decide_eq_true c35
               clear c35
               have H' := Aside0.mk H
               clear H
               have p32 : 0 ≤ (0 : Int) := (by omega)
               have q32 : 0 < a0.size := (by have : (0 : Int) < (a0.size : Int) := of_decide_eq_true (by first | (with_reducible assumption) | assumption); omega)
               have hx32 : ∀ h : 0 < a0.size, ((a0[0]'h).toNat : Int) = bt a0 0 := bt_at a0 0
               clear p32
               have qi32 : (0 < (a0.size : Int)) = True := eq_true (of_decide_eq_true (by first | (with_reducible assumption) | assumption))
               replace q32 := eq_true q32
               go_wp2
               go_meet
               case rel => exact ⟨_, (true), (by first | rfl | (simp; done) | (simp [*]; done)), H', ⟨by have := HJ2.out; have := HJ9.out; have := HK3.out; first | omega | exact Nat.le_refl _⟩, ⟨by repeat (first | (with_reducible first | exact HB.out | apply below_alloc | apply pw_below_drewN | apply below_drew1) | exact HB.out)⟩⟩
              ·rw [if_neg c35] at H
               have c35b0 : decide ((a0.size : Int) ≤ x8_3) = false := decide_eq_false c35
               clear c35
               by_cases c36 : 0 ≤ x8_3
               ·rw [if_pos c36] at H
                have c36b0 : decide (0 ≤ x8_3) = true := decide_eq_true c36
                clear c36
                by_cases c37 : x8_3 < (a0.size : Int)
                ·rw [if_pos c37] at H
                 have c37b0 : decide (x8_3 < (a0.size : Int)) = true := decide_eq_true c37
                 clear c37
                 have H' := Aside0.mk H
                 clear H
                 have p32 : 0 ≤ (0 : Int) := (by omega)
                 have q32 : 0 < a0.size := (by have : (0 : Int) < (a0.size : Int) := of_decide_eq_true (by first | (with_reducible assumption) | assumption); omega)
                 have hx32 : ∀ h : 0 < a0.size, ((a0[0]'h).toNat : Int) = bt a0 0 := bt_at a0 0
                 clear p32
                 have qi32 : (0 < (a0.size : Int)) = True := eq_true (of_decide_eq_true (by first | (with_reducible assumption) | assumption))
                 replace q32 := eq_true q32
                 have p38 : 0 ≤ (x8_3 : Int) := of_decide_eq_true (by first | (with_reducible assumption) | assumption)
                 have q38 : x8_3 < (a0.size : Int) := of_decide_eq_true (by first | (with_reducible assumption) | assumption)
                 have hx38 := bt_at a0 x8_3
                 replace p38 := eq_true p38
                 replace q38 := eq_true q38
                 go_wp2
                 go_meet
                 case rel => exact ⟨_, (((bt a0 x8_3) != 117)), (by first | rfl | (simp; done) | (simp [*]; done)), H', ⟨by have := HJ2.out; have := HJ9.out; have := HK3.out; first | omega | exact Nat.le_refl _⟩, ⟨by repeat (first | (with_reducible first | exact HB.out | apply below_alloc | apply pw_below_drewN | apply below_drew1) | exact HB.out)⟩⟩
                ·rw [if_neg c37] at H
                 exact absurd H (by simp)
               ·rw [if_neg c36] at H
                exact absurd H (by simp)
             ·rw [if_neg c34] at H
              have c34b0 : (x9_3 == 0) = false := beq_eq_false_iff_ne.mpr c34
              have c34b1 : (x9_3 != 0) = true := bne_iff_ne.mpr c34
              have H' := Aside0.mk H
              clear H
              have p32 : 0 ≤ (0 : Int) := (by omega)
              have q32 : 0 < a0.size := (by have : (0 : Int) < (a0.size : Int) := of_decide_eq_true (by first | (with_reducible assumption) | assumption); omega)
              have hx32 : ∀ h : 0 < a0.size, ((a0[0]'h).toNat : Int) = bt a0 0 := bt_at a0 0
              clear p32
              have qi32 : (0 < (a0.size : Int)) = True := eq_true (of_decide_eq_true (by first | (with_reducible assumption) | assumption))
              replace q32 := eq_true q32
              go_wp2
              go_meet
              case rel => exact ⟨_, (false), (by first | rfl | (simp; done) | (simp [*]; done)), H', ⟨by have := HJ2.out; have := HJ9.out; have := HK3.out; first | omega | exact Nat.le_refl _⟩, ⟨by repeat (first | (with_reducible first | exact HB.out | apply below_alloc | apply pw_below_drewN | apply below_drew1) | exact HB.out)⟩⟩
            ·rw [if_neg c33] at H
             have c33b0 : ((bt a0 0) == 98) = false := beq_eq_false_iff_ne.mpr c33
             have c33b1 : ((bt a0 0) != 98) = true := bne_iff_ne.mpr c33
             (first | rw [c33b0] | (simp only [i64_w, i32_w]; rw [c33b0]) | skip)
             have H' := Aside0.mk H
             clear H
             have p32 : 0 ≤ (0 : Int) := (by omega)
             have q32 : 0 < a0.size := (by have : (0 : Int) < (a0.size : Int) := of_decide_eq_true (by first | (with_reducible assumption) | assumption); omega)
             have hx32 : ∀ h : 0 < a0.size, ((a0[0]'h).toNat : Int) = bt a0 0 := bt_at a0 0
             clear p32
             have qi32 : (0 < (a0.size : Int)) = True := eq_true (of_decide_eq_true (by first | (with_reducible assumption) | assumption))
             replace q32 := eq_true q32
             go_wp2
             go_meet
             case rel => exact ⟨_, (false), (by first | rfl | (simp; done) | (simp [*]; done)), H', ⟨by have := HJ2.out; have := HJ9.out; have := HK3.out; first | omega | exact Nat.le_refl _⟩, ⟨by repeat (first | (with_reducible first | exact HB.out | apply below_alloc | apply pw_below_drewN | apply below_drew1) | exact HB.out)⟩⟩
           case rest =>
            clear HC31
            try clear c1
            try clear p1
            try clear q1
            try clear hx1
            try clear qi1
            try clear c2
            try clear p2
            try clear q2
            try clear hx2
            try clear qi2
            try clear c3
            try clear p3
            try clear q3
            try clear hx3
            try clear qi3
            try clear c4
            try clear c4b0
            try clear c4b1
            try clear c5
            try clear c5b0
            try clear c5b1
            try clear c6
            try clear c6b0
            try clear c6b1
            try clear p6
            try clear p7
            try clear q7
            try clear hx7
            try clear qi7
            try clear c9
            try clear c10
            try clear c11
            try clear c11b0
            try clear c11b1
            try clear c12
            try clear p12
            try clear q12
            try clear hx12
            try clear qi12
            try clear c13
            try clear c13b0
            try clear c13b1
            try clear p14
            try clear q14
            try clear hx14
            try clear qi14
            try clear c15
            try clear c16
            try clear c16b0
            try clear c16b1
            try clear c18
            try clear c18b0
            try clear c18b1
            try clear p19
            try clear q19
            try clear hx19
            try clear qi19
            try clear c20
            try clear c20b0
            try clear c20b1
            try clear c21
            try clear c21b0
            try clear c23
            try clear c23b0
            try clear c23b1
            try clear c26
            try clear c26b0
            try clear c26b1
            try clear c27
            try clear c27b0
            try clear c27b1
            try clear p28
            try clear q28
            try clear hx28
            try clear qi28
            try clear c30
            try clear c30b0
            try clear p32
            try clear q32
            try clear hx32
            try clear qi32
            try clear c33
            try clear c33b0
            try clear c33b1
            try clear c34
            try clear c34b0
            try clear c34b1
            try clear c35
            try clear c35b0
            try clear c36
            try clear c36b0
            try clear c37
            try clear c37b0
            try clear p38
            try clear q38
            try clear hx38
            try clear p1
            try clear p12
            try clear p14
            try clear p19
            try clear p2
            try clear p28
            try clear p32
            try clear p38
            try clear p6
            try clear p7
            try clear q1
            try clear q12
            try clear q14
            try clear q19
            try clear q28
            try clear q32
            try clear q38
            try clear q7
            obtain ⟨kq, x80_30, rfl, HA, HJ30, HB⟩ := hcut
            cases kq with
            | zero => exact absurd HA.out (by simp [letterlockref3_size.j3])
            | succ kj30 =>
             have H := HA.out
             clear HA
             simp only [letterlockref3_size.j3] at H
             by_cases c39 : x80_30 = true
             ·subst c39
              have H1 : (some 0) = some r := by rw [if_pos rfl] at H; exact H
              clear H
              have H := H1
              clear H1
              obtain rfl := Option.some.inj H
              go_wp2
              go_ret
              exact ⟨by first | rfl | (simp [errW_none, errW_some] <;> rfl) | (simp [*, errW_none, errW_some] <;> rfl), by repeat (first | (with_reducible first | exact HB.out | apply below_alloc | apply pw_below_drewN | apply below_drew1) | exact HB.out)⟩
             ·replace c39 := Bool.eq_false_iff.mpr c39
              subst c39
              have H1 : (if 0 ≤ x8_3 then (if x8_3 ≤ (a0.size : Int) then ((letterlockref3_size.f kj30 (a0.extract (x8_3 : Int).toNat a0.size) (wrap64 (a1 - 1))).bind fun t216 => (if t216 = 0 then (some 0) else (letterlockref3_size.l0 kj30 a0 a1 (wrap64 (x8_3 + t216)) (wrap64 (x9_3 + 1))))) else (none)) else (none)) = some r := by rw [if_neg (show ¬ (false = true) by decide)] at H; exact H
              clear H
              have H := H1
              clear H1
              by_cases c40 : 0 ≤ x8_3
              ·rw [if_pos c40] at H
               have c40b0 := eq_true c40
               have c40b1 : decide (0 ≤ x8_3) = true := decide_eq_true c40
               clear c40
               by_cases c41 : x8_3 ≤ (a0.size : Int)
               ·rw [if_pos c41] at H
                have c41b0 := eq_true c41
                have c41b1 : decide (x8_3 ≤ (a0.size : Int)) = true := decide_eq_true c41
                clear c41
                replace H := Option.bind_eq_some_iff.mp H
                obtain ⟨t216, A420, H⟩ := H
                replace H : (if t216 = 0 then (some 0) else (letterlockref3_size.l0 kj30 a0 a1 (wrap64 (x8_3 + t216)) (wrap64 (x9_3 + 1)))) = some r := H
                have A42 := Aside0.mk A420
                clear A420
                by_cases c43 : t216 = 0
                ·rw [if_pos c43] at H
                 have c43b0 : (t216 == 0) = true := beq_iff_eq.mpr c43
                 have c43b1 : (t216 != 0) = false := bne_eq_false_iff_eq.mpr c43
                 clear c43
                 obtain rfl := Option.some.inj H
                 go_wp2_with (first | ((with_reducible refine gate_callee (f := 103) rfl ?_); refine goesL_ (some 86) rfl rfl Tryz.func103 (by kernel_rfl) rfl #[.string (a0.extract (x8_3 : Int).toNat a0.size), .int .i64 (wrap64 (a1 - 1))] rfl (by (try simp only [List.map_toArray, List.map_cons, List.map_nil]); first | done | rfl | (simp only [List.length_drop, List.length_take]; rfl)) ?_; (with_reducible refine (ih kj30 (by have := HJ2.out; have := HJ9.out; have := HK3.out; have := HJ30.out; omega) (a0.extract (x8_3 : Int).toNat a0.size) (wrap64 (a1 - 1)) t216 _ A42.out).mono ?_); rintro e w44 ⟨rfl, hb⟩; refine ⟨_, rfl, ?_⟩; have n0_ := Aside0.mk (below_step (by repeat (first | (with_reducible first | exact HB.out | apply below_alloc | apply pw_below_drewN | apply below_drew1) | exact HB.out)) hb); clear HB; have HB := n0_; clear n0_; (try clear hb); (try clear hb2); (try clear hk); (try clear hi)))
                 go_ret
                 exact ⟨by first | rfl | (simp [errW_none, errW_some] <;> rfl) | (simp [*, errW_none, errW_some] <;> rfl), by repeat (first | (with_reducible first | exact HB.out | apply below_alloc | apply pw_below_drewN | apply below_drew1) | exact HB.out)⟩
                ·rw [if_neg c43] at H
                 have c43b0 : (t216 == 0) = false := beq_eq_false_iff_ne.mpr c43
                 have c43b1 : (t216 != 0) = true := bne_iff_ne.mpr c43
                 have H' := Aside0.mk H
                 clear H
                 go_wp2_with (first | ((with_reducible refine gate_callee (f := 103) rfl ?_); refine goesL_ (some 86) rfl rfl Tryz.func103 (by kernel_rfl) rfl #[.string (a0.extract (x8_3 : Int).toNat a0.size), .int .i64 (wrap64 (a1 - 1))] rfl (by (try simp only [List.map_toArray, List.map_cons, List.map_nil]); first | done | rfl | (simp only [List.length_drop, List.length_take]; rfl)) ?_; (with_reducible refine (ih kj30 (by have := HJ2.out; have := HJ9.out; have := HK3.out; have := HJ30.out; omega) (a0.extract (x8_3 : Int).toNat a0.size) (wrap64 (a1 - 1)) t216 _ A42.out).mono ?_); rintro e w45 ⟨rfl, hb⟩; refine ⟨_, rfl, ?_⟩; have n0_ := Aside0.mk (below_step (by repeat (first | (with_reducible first | exact HB.out | apply below_alloc | apply pw_below_drewN | apply below_drew1) | exact HB.out)) hb); clear HB; have HB := n0_; clear n0_; (try clear hb); (try clear hb2); (try clear hk); (try clear hi)))
                 go_roundg kj30
                 case measure => have := HJ2.out; have := HJ9.out; have := HK3.out; have := HJ30.out; omega
                 case rel => exact ⟨(wrap64 (x8_3 + t216)), (wrap64 (x9_3 + 1)), (by first | rfl | (simp; done) | (simp [*]; done)), (by first | rfl | (simp; done) | (simp [*]; done)), H', ⟨by have := HJ2.out; have := HJ9.out; have := HK3.out; have := HJ30.out; omega⟩, ⟨by repeat (first | (with_reducible first | exact HB.out | apply below_alloc | apply pw_below_drewN | apply below_drew1) | exact HB.out)⟩⟩
               ·rw [if_neg c41] at H
                exact absurd H (by simp)
              ·rw [if_neg c40] at H
               exact absurd H (by simp)
          ·rw [if_neg c30] at H
           have c30b0 : decide (x9_3 < t215) = false := decide_eq_false c30
           clear c30
           obtain rfl := Option.some.inj H
           have p28 : 0 ≤ (0 : Int) := (by omega)
           have q28 : 0 < a0.size := (by have : (0 : Int) < (a0.size : Int) := of_decide_eq_true (by first | (with_reducible assumption) | assumption); omega)
           have hx28 : ∀ h : 0 < a0.size, ((a0[0]'h).toNat : Int) = bt a0 0 := bt_at a0 0
           clear p28
           have qi28 : (0 < (a0.size : Int)) = True := eq_true (of_decide_eq_true (by first | (with_reducible assumption) | assumption))
           replace q28 := eq_true q28
           go_wp2_with (first | ((with_reducible refine gate_callee (f := 123) rfl ?_); refine goesL_ (some 58) rfl rfl Tryz.func123 (by kernel_rfl) rfl #[.int .u8 (bt a0 0)] rfl (by (try simp only [List.map_toArray, List.map_cons, List.map_nil]); first | done | rfl | (simp only [List.length_drop, List.length_take]; rfl)) ?_; (with_reducible refine (letterlockref3_many.calls k3 (bt a0 0) t215 _ A29.out).mono ?_); rintro e w' ⟨rfl, ⟨nd, rfl⟩⟩; refine ⟨_, rfl, ?_⟩))
           go_ret
           exact ⟨by first | rfl | (simp [errW_none, errW_some] <;> rfl) | (simp [*, errW_none, errW_some] <;> rfl), by repeat (first | (with_reducible first | exact HB.out | apply below_alloc | apply pw_below_drewN | apply below_drew1) | exact HB.out)⟩
         ·rw [if_neg c27] at H
          exact absurd H (by simp)
def letterlockref3_Right.f (k : Nat) (a0 : ByteArray) : Option (Bool) := if a0.toList = ([] : List UInt8) then (some false) else (if (a0.size : Int) ≤ 4000 then ((letterlockref3_size.f k a0 40).bind fun t217 => (some (t217 == (a0.size : Int)))) else (some false))
set_option maxHeartbeats 8000000 in
set_option maxRecDepth 100000 in
theorem letterlockref3_Right.calls (k : Nat) (a0 : ByteArray) (r : Bool) (w : World) (h : letterlockref3_Right.f k a0 = some r) :
  Calls Tryz.prog 57 #[.string a0] w fun e w' => e = .returned (.bool r) ∧ Below w.heap.size w w' := by
 have HB := Aside0.mk (Below.refl w.heap.size w)
 have H : (if a0.toList = ([] : List UInt8) then (some false) else (if (a0.size : Int) ≤ 4000 then ((letterlockref3_size.f k a0 40).bind fun t217 => (some (t217 == (a0.size : Int)))) else (some false))) = some r := h
 clear h
 by_cases c2 : a0.toList = ([] : List UInt8)
 ·rw [if_pos c2] at H
  have c2b0 : (a0.toList == ([] : List UInt8)) = true := beq_iff_eq.mpr c2
  have c2b1 : (a0.toList != ([] : List UInt8)) = false := bne_eq_false_iff_eq.mpr c2
  clear c2
  obtain rfl := Option.some.inj H
  go_enter Tryz.func57, Tryz.ntmps57
  go_wp2
  go_ret
  exact ⟨by first | rfl | (simp [errW_none, errW_some] <;> rfl) | (simp [*, errW_none, errW_some] <;> rfl), by repeat (first | (with_reducible first | exact HB.out | apply below_alloc | apply pw_below_drewN | apply below_drew1) | exact HB.out)⟩
 ·rw [if_neg c2] at H
  have c2b0 : (a0.toList == ([] : List UInt8)) = false := beq_eq_false_iff_ne.mpr c2
  have c2b1 : (a0.toList != ([] : List UInt8)) = true := bne_iff_ne.mpr c2
  by_cases c3 : (a0.size : Int) ≤ 4000
  ·rw [if_pos c3] at H
   have c3b0 : decide ((a0.size : Int) ≤ 4000) = true := decide_eq_true c3
   have c3b1 : decide (a0.size ≤ 4000) = true := decide_eq_true (by omega)
   clear c3
   replace H := Option.bind_eq_some_iff.mp H
   obtain ⟨t217, A40, H⟩ := H
   replace H : (some (t217 == (a0.size : Int))) = some r := H
   have A4 := Aside0.mk A40
   clear A40
   obtain rfl := Option.some.inj H
   go_enter Tryz.func57, Tryz.ntmps57
   go_wp2_with (first | (go_at_call 103; (with_reducible refine (letterlockref3_size.calls k a0 40 t217 _ A4.out).mono ?_); rintro e w5 ⟨rfl, hb⟩; have n0_ := Aside0.mk (below_step (by repeat (first | (with_reducible first | exact HB.out | apply below_alloc | apply pw_below_drewN | apply below_drew1) | exact HB.out)) hb); clear HB; have HB := n0_; clear n0_; (try clear hb); (try clear hb2); (try clear hk); (try clear hi)))
   go_ret
   exact ⟨by first | rfl | (simp [errW_none, errW_some] <;> rfl) | (simp [*, errW_none, errW_some] <;> rfl), by repeat (first | (with_reducible first | exact HB.out | apply below_alloc | apply pw_below_drewN | apply below_drew1) | exact HB.out)⟩
  ·rw [if_neg c3] at H
   have c3b0 : decide ((a0.size : Int) ≤ 4000) = false := decide_eq_false c3
   have c3b1 : decide (a0.size ≤ 4000) = false := decide_eq_false (by omega)
   clear c3
   obtain rfl := Option.some.inj H
   go_enter Tryz.func57, Tryz.ntmps57
   go_wp2
   go_ret
   exact ⟨by first | rfl | (simp [errW_none, errW_some] <;> rfl) | (simp [*, errW_none, errW_some] <;> rfl), by repeat (first | (with_reducible first | exact HB.out | apply below_alloc | apply pw_below_drewN | apply below_drew1) | exact HB.out)⟩
end Go.Proofs.YtphehoidkmficaaGreatDoor.PA
end
